/- What is laid at the start for floats: tables, the slices of powers, the switches. -/
import Derived.Test.YtagkgfniihiinaaGreatDoorJ12
import Derived.ProofKit
import Derived.OpenShut
import Derived.LaidMore
import Derived.LaidSub
import Derived.LaidLaws
import Derived.Lib.LaidTab
import Derived.Stop.LaidErr
import Derived.Lay
import Derived.Test.YtagkgfniihiinaaGreatDoorNums
import Derived.Test.YtagkgfniihiinaaGreatDoorOpen
import Derived.Test.YtagkgfniihiinaaGreatDoorRTxt
import Derived.Test.YtagkgfniihiinaaGreatDoorJ11
import Derived.Test.YtagkgfniihiinaaGreatDoorJ7

namespace Go.Proofs.YtagkgfniihiinaaGreatDoor
open Go.ChangeShapes Go.WideShapes Go.ChangeAt Go.RowKit

section
variable {H : Type} {enc : TypeId × Value → H} {P : Program} {w : World} {base : Nat} {spare : Nat → Bool} {held : Bool} {fuel : Nat} {t : TypeId} {cs : List Value} {x : DataW H × List MemPlace}
theorem trod_float {k : FloatKind} (ht : P.underlying t = some (.float k)) (h : DataW.trod enc P w base spare held fuel t cs = some x) : ∃ n, cs = [.float k n] ∧ x = (.lit (.float k n), []) := by
  cases fuel with
  | zero => simp [DataW.trod] at h
  | succ n =>
    unfold DataW.trod at h
    rw [ht] at h
    split at h <;> simp_all
end
theorem rows_ok : Go.Pinned.pow10Rows = (List.range 696).map fun (i : Nat) => (hiT ((i : Int) - 348), loT ((i : Int) - 348)) := by decide +kernel
theorem pows_of {W : World} (h : laidMet Tryz.prog [("internal/strconv.pow10Tab", Go.Pinned.pow10Tab)] W) : Pows W := by
  obtain ⟨ps, ⟨g', t', cs, fuel, p, q, hg', ht', hvar, hd, _, _⟩, _⟩ := h
  obtain rfl : 8 = g' := Option.some.inj ((show Tryz.prog.globalNamed "internal/strconv.pow10Tab" = some 8 by kernel_rfl).symm.trans hg')
  obtain rfl : 290 = t' := Option.some.inj ((show (Tryz.prog.globals[8]?).map (·.type) = some 290 by kernel_rfl).symm.trans ht')
  obtain ⟨xs, m, rfl, hx, hl, hxl, hxs⟩ := DataW.trod_array (n := 696) (e := 289) Tryz.underlying290 hd
  have hxm : xs.map (·.1) = Go.Pinned.pow10Rows.map fun x => (DataW.agg [.lit (.int .u64 x.1), .lit (.int .u64 x.2)] : DataW Unit) := by
    have := congrArg Prod.fst hx
    simp only [Go.Pinned.pow10Tab, DataW.agg.injEq] at this
    exact this.symm
  have hc2 : Tryz.prog.cellsOf 289 = 2 := by kernel_rfl
  have hc1 : Tryz.prog.cellsOf 60 = 1 := by kernel_rfl
  rw [hc2] at hxs
  intro pw p0 p1
  obtain ⟨i, hi⟩ : ∃ i : Nat, pw = (i : Int) - 348 := ⟨(pw + 348).toNat, by omega⟩
  have hi9 : i < 696 := by omega
  have hix : (pw + 348).toNat = i := by omega
  rw [hix]
  have hrow : Go.Pinned.pow10Rows[i]? = some (hiT pw, loT pw) := by
    rw [rows_ok, List.getElem?_map, List.getElem?_range hi9, hi]; rfl
  have hxi : (xs.map (·.1))[i]? = some (DataW.agg [.lit (.int .u64 (hiT pw)), .lit (.int .u64 (loT pw))]) := by
    rw [hxm, List.getElem?_map, hrow]; rfl
  rw [List.getElem?_map, Option.map_eq_some_iff] at hxi
  obtain ⟨y, hy, hy1⟩ := hxi
  have he := hxs i hi9
  rw [hy] at he
  obtain ⟨ys, n, rfl, hyy, hyl, hys, hyf⟩ := DataW.trod_struct Tryz.underlying289 he
  have hym : ys.map (·.1) = [DataW.lit (.int .u64 (hiT pw)), .lit (.int .u64 (loT pw))] := by
    rw [hyy] at hy1
    simpa using hy1
  obtain ⟨y0, y1, rfl⟩ : ∃ y0 y1, ys = [y0, y1] := by
    match ys, hys with
    | [a, b], _ => exact ⟨a, b, rfl⟩
  simp only [List.map_cons, List.map_nil, List.cons.injEq, and_true] at hym
  have hf0 : DataW.trod (fun _ => ()) Tryz.prog W 0 (fun _ => true) false n 60 ((((cs.toList.drop (i * 2)).take 2).drop 0).take 1) = some y0 := by
    have := hyf 0 _ rfl
    rw [show (#[(_ : Field), _])[0].type = 60 from rfl, hc1] at this
    exact this
  have hf1 : DataW.trod (fun _ => ()) Tryz.prog W 0 (fun _ => true) false n 60 ((((cs.toList.drop (i * 2)).take 2).drop 1).take 1) = some y1 := by
    have := hyf 1 _ rfl
    rw [show (#[(_ : Field), _])[1].type = 60 from rfl, hc1] at this
    exact this
  have key : ∀ (k : Nat) (y : DataW Unit × List MemPlace) (z : Int), k < 2 → DataW.trod (fun _ => ()) Tryz.prog W 0 (fun _ => true) false n 60 ((((cs.toList.drop (i * 2)).take 2).drop k).take 1) = some y → y.1 = .lit (.int .u64 z) → cs[i * 2 + k]? = some (.int .u64 z) := fun k y z hk hf hz => by
    obtain ⟨v, h1, h2, _⟩ := DataW.trod_int Tryz.underlying60 hf
    have h3 : v = z := by rw [h2] at hz; simpa using hz
    have h4 := congrArg (·[0]?) h1
    simp only [List.getElem?_take, List.getElem?_drop] at h4
    rw [if_pos (by omega), if_pos (by omega)] at h4
    rw [← Array.getElem?_toList, ← h3]
    have h5 : i * 2 + (k + 0) = i * 2 + k := by omega
    rw [h5] at h4
    simpa using h4
  exact ⟨(World.var?_cell hg' hvar _).trans (by have := key 0 y0 _ (by omega) hf0 hym.1; simpa using this), (World.var?_cell hg' hvar _).trans (key 1 y1 _ (by omega) hf1 hym.2)⟩
end Go.Proofs.YtagkgfniihiinaaGreatDoor

/- What is laid at the start: Go's own table and errors. -/

namespace Go.Proofs.YtagkgfniihiinaaGreatDoor
open Go.ChangeShapes Go.WideShapes Go.ChangeAt Go.RowKit

theorem star_err : "*" ++ "errors.errorString" = "*errors.errorString" := by decide
theorem row_err (u : TypeId) (h : Tryz.prog.typeName? 3 u = some "*errors.errorString") : u = 246 :=
  typeName_ptr_named (nm := "errors.errorString") (by rw [star_err]; kernel_rfl) (by kernel_rfl) (by decide) u (by rw [star_err]; exact h)
theorem nums_of {W : World} {laid : List (String × DataW Unit)} (h0 : laidMetH Tryz.prog laid W) (hp : (laid.all fun x => x.2.handleName?.isNone) = true)
    (e1 : laid.filter (fun x => x.1 == "internal/strconv.uint64pow10") = [("internal/strconv.uint64pow10", Lib.tabData .u64 Lib.pow10Tab)])
    (e2 : laid.filter (fun x => x.1 == "strconv.ErrSyntax") = [("strconv.ErrSyntax", .iface "*errors.errorString" (.ptr (.agg [.lit (.string [105, 110, 118, 97, 108, 105, 100, 32, 115, 121, 110, 116, 97, 120])])))])
    (e3 : laid.filter (fun x => x.1 == "strconv.ErrRange") = [("strconv.ErrRange", .iface "*errors.errorString" (.ptr (.agg [.lit (.string [118, 97, 108, 117, 101, 32, 111, 117, 116, 32, 111, 102, 32, 114, 97, 110, 103, 101])])))]) : Nums W := by
  rw [MakeChecks.laidMetH_plain _ _ _ hp] at h0
  have h1 := h0.filter (fun x => x.1 == "internal/strconv.uint64pow10")
  have h2 := h0.filter (fun x => x.1 == "strconv.ErrSyntax")
  have h3 := h0.filter (fun x => x.1 == "strconv.ErrRange")
  rw [e1] at h1
  rw [e2] at h2
  rw [e3] at h3
  refine ⟨Lib.tabIs_of_head (g := 5) (t := 223) (e := 60) (n := 20) (by kernel_rfl) (by kernel_rfl) Tryz.underlying223 Tryz.underlying60 (by kernel_rfl) (by kernel_rfl) h1, ?_, ?_⟩
  · obtain ⟨a, s, hv, _⟩ := laid_sentinel (g := 3) (ti := 106) (tp := 246) (te := 248) h2 glob_syn (by kernel_rfl) Tryz.underlying106 row_err Tryz.underlying246 Tryz.underlying248 rfl rfl Tryz.underlying9 (by kernel_rfl) (by kernel_rfl)
    exact ⟨_, _, hv⟩
  · obtain ⟨a, s, hv, _⟩ := laid_sentinel (g := 4) (ti := 106) (tp := 246) (te := 248) h3 glob_rng (by kernel_rfl) Tryz.underlying106 row_err Tryz.underlying246 Tryz.underlying248 rfl rfl Tryz.underlying9 (by kernel_rfl) (by kernel_rfl)
    exact ⟨_, _, hv⟩
end Go.Proofs.YtagkgfniihiinaaGreatDoor

/- What is laid at the start for writing floats. -/
namespace Go.Proofs.YtagkgfniihiinaaGreatDoor
open Go.ChangeShapes Go.WideShapes Go.ChangeAt Go.RowKit

theorem floF_of {W : World} {laid : List (String × DataW Unit)} (h0 : laidMetH Tryz.prog laid W) (hp : (laid.all fun x => x.2.handleName?.isNone) = true)
    (e1 : laid.filter (fun x => x.1 == "internal/strconv.uint64pow10") = [("internal/strconv.uint64pow10", Lib.tabData .u64 Lib.pow10Tab)])
    (e2 : laid.filter (fun x => x.1 == "internal/strconv.pow10Tab") = [("internal/strconv.pow10Tab", Go.Pinned.pow10Tab)]) : Flo W := by
  rw [MakeChecks.laidMetH_plain _ _ _ hp] at h0
  have h1 := h0.filter (fun x => x.1 == "internal/strconv.uint64pow10")
  have h2 := h0.filter (fun x => x.1 == "internal/strconv.pow10Tab")
  rw [e1] at h1
  rw [e2] at h2
  exact ⟨pows_of h2, Lib.tabIs_of_head (g := 5) (t := 223) (e := 60) (n := 20) (by kernel_rfl) (by kernel_rfl) Tryz.underlying223 Tryz.underlying60 (by kernel_rfl) (by kernel_rfl) h1⟩
end Go.Proofs.YtagkgfniihiinaaGreatDoor

/- Values that came in, opened: their texts are no longer than texts can be, their numbers within their words.
-/
namespace Go.Proofs.YtagkgfniihiinaaGreatDoor
open Go.ChangeShapes Go.WideShapes Go.ChangeAt Go.RowKit Go.Deep

theorem trod_floatW {H : Type} {enc : TypeId × Value → H} {P : Program} {w : World} {base : Nat} {spare : Nat → Bool} {held : Bool} {fuel : Nat} {t : TypeId} {cs : List Value} {x : DataW H × List MemPlace} (ht : P.underlying t = some (.float .f64))
    (h : DataW.trod enc P w base spare held fuel t cs = some x) : ∃ b, cs = [.float .f64 b] ∧ b < 18446744073709551616 := by
  obtain ⟨b, rfl⟩ := trod_float' ht h
  refine ⟨b, rfl, ?_⟩
  cases fuel with
  | zero => simp [DataW.trod] at h
  | succ n =>
    unfold DataW.trod at h
    simp only [ht, Lit.wf, true_and, decide_eq_true_eq] at h
    split at h
    · assumption
    · cases h
set_option maxHeartbeats 1600000 in
theorem open_valueG {H : Type} {enc : TypeId × Value → H} {w : World} : ∀ (fuel : Nat) (cs : List Value) (x : DataW H × List MemPlace), DataW.trod enc Tryz.prog w 0 (fun _ => true) true fuel 26 cs = some x →
    ∃ (v : V) (a : Option Addr) (cap : Nat), cs = cells6 v.kind v.text v.int v.real v.flag a v.list.length cap ∧ RV w.cell? cs v ∧ v.sized ∧ v.ranged := by
  intro fuel
  induction fuel using Nat.strongRecOn with
  | ind fuel ih =>
  intro cs x h
  obtain ⟨xs, n, rfl, hx, hlen, hxl, hf⟩ := DataW.trod_struct Tryz.underlying26 h
  have hC : Tryz.prog.cellsOf 26 = 6 := by kernel_rfl
  rw [hC] at hlen
  obtain ⟨c0, c1, c2, c3, c4, c5, rfl⟩ := six_of hlen
  have g : ∀ i (hi : i < xs.length), xs[i]? = some xs[i] := fun i hi => List.getElem?_eq_getElem hi
  have hx6 : xs.length = 6 := hxl
  have key : ∀ (i : Nat) (f : Field) (c : Value), _ → Tryz.prog.cellsOf f.type = 1 → (([c0, c1, c2, c3, c4, c5] : List Value).drop f.offset).take 1 = [c] → DataW.trod enc Tryz.prog w 0 (fun _ => true) true n f.type [c] = xs[i]? := fun i f c h1 h2 h3 => by
    have := hf i f h1
    rw [h2, h3] at this
    exact this
  have f0 : DataW.trod enc Tryz.prog w 0 (fun _ => true) true n 3 [c0] = some xs[0] := (key 0 _ c0 rfl (by kernel_rfl) rfl).trans (g 0 (by omega))
  have f1 : DataW.trod enc Tryz.prog w 0 (fun _ => true) true n 9 [c1] = some xs[1] := (key 1 _ c1 rfl (by kernel_rfl) rfl).trans (g 1 (by omega))
  have f2 : DataW.trod enc Tryz.prog w 0 (fun _ => true) true n 2 [c2] = some xs[2] := (key 2 _ c2 rfl (by kernel_rfl) rfl).trans (g 2 (by omega))
  have f3 : DataW.trod enc Tryz.prog w 0 (fun _ => true) true n 23 [c3] = some xs[3] := (key 3 _ c3 rfl (by kernel_rfl) rfl).trans (g 3 (by omega))
  have f4 : DataW.trod enc Tryz.prog w 0 (fun _ => true) true n 4 [c4] = some xs[4] := (key 4 _ c4 rfl (by kernel_rfl) rfl).trans (g 4 (by omega))
  have f5 : DataW.trod enc Tryz.prog w 0 (fun _ => true) true n 24 [c5] = some xs[5] := (key 5 _ c5 rfl (by kernel_rfl) rfl).trans (g 5 (by omega))
  obtain ⟨k, e0, _⟩ := DataW.trod_int Tryz.underlying3 f0
  obtain ⟨t, e1, _, htm⟩ := DataW.trod_string Tryz.underlying9 f1
  have htm : t.size ≤ 9223372036854775807 := htm
  obtain ⟨i, e2, _, e2w⟩ := DataW.trod_int Tryz.underlying2 f2
  have hi64 : -9223372036854775808 ≤ i ∧ i ≤ 9223372036854775807 := by
    rw [Lit.wf, Bool.and_eq_true, decide_eq_true_eq, decide_eq_true_eq] at e2w
    exact e2w
  obtain ⟨r, e3, hr64⟩ := trod_floatW Tryz.underlying23 f3
  obtain ⟨b, e4, _⟩ := DataW.trod_bool Tryz.underlying4 f4
  simp only [List.cons.injEq, and_true] at e0 e1 e2 e3 e4
  subst e0; subst e1; subst e2; subst e3; subst e4
  rcases DataW.trod_slice Tryz.underlying24 f5 with ⟨e5, _⟩ | ⟨ad, len, cap, elems, rest, m, rfl, e5, _, _, hlc, _, hel, hi, _⟩
  · simp only [List.cons.injEq, and_true] at e5
    subst e5
    exact ⟨.mk k t i r b [], none, 0, rfl, RV.leaf _ _ _ _ _ _ _ _, (V.sized_eq _).2 ⟨htm, trivial⟩, (V.ranged_eq _).2 ⟨hi64.1, hi64.2, hr64, trivial⟩⟩
  · simp only [List.cons.injEq, and_true] at e5
    subst e5
    rw [hC] at hi
    obtain ⟨ps, hpl, hpr⟩ := exists_list (R := fun j (p : List Value × V) => w.cells? 0 (ad.add (j * 6)) 6 = some p.1 ∧ RV w.cell? p.1 p.2 ∧ p.2.sized ∧ p.2.ranged) len (fun j hj => by
      have h1 := hi j hj
      rw [List.getElem?_eq_getElem (by omega)] at h1
      obtain ⟨cs', h2, h3⟩ := Option.bind_eq_some_iff.1 h1
      obtain ⟨v, _, _, _, hv, hvs⟩ := ih m (by omega) cs' _ h3
      exact ⟨(cs', v), h2, hv, hvs⟩)
    refine ⟨.mk k t i r b (ps.map (·.2)), some ad, cap, by simp [cells6, V.kind, V.text, V.int, V.real, V.flag, V.list, hpl], RV.mk k t i r b (some ad) len cap (ps.map (·.2)) (ps.map (·.1)) (by simp [hpl]) (by simp) (fun j x hx => ?_) (fun j x y hx hy => ?_), (V.sized_eq _).2 ⟨htm, sizedL_of fun x hx => ?_⟩, (V.ranged_eq _).2 ⟨hi64.1, hi64.2, hr64, rangedL_of fun x hx => ?_⟩⟩
    · obtain ⟨p, hp, rfl⟩ := List.mem_map.1 (List.mem_of_getElem? hx)
      rw [List.getElem?_map] at hx
      obtain ⟨p', hp', hpe⟩ := Option.map_eq_some_iff.1 hx
      obtain ⟨hjl, rfl⟩ := List.getElem?_eq_some_iff.1 hp'
      obtain ⟨_, h6, hat⟩ := World.cells?_some (hpr j hjl).1
      have h60 := hpr 0 (by omega)
      obtain ⟨_, h60', hat0⟩ := World.cells?_some h60.1
      have e0 : w.cell? (ad.add 0) = some (ps[0].1[0]'(by omega)) := by
        have := hat0 0 (by omega)
        rw [List.getElem?_eq_getElem (by omega)] at this
        simpa [Addr.add] using this
      obtain ⟨b0, o0, rfl⟩ := add_plain e0
      refine ⟨b0, o0, rfl, fun q u hu => ?_⟩
      rw [← hpe] at hu
      have hq : q < 6 := by have := (List.getElem?_eq_some_iff.1 hu).1; omega
      have := hat q hq
      rw [add_mk, add_mk, hu] at this
      exact this
    · rw [List.getElem?_map] at hx hy
      obtain ⟨p, hp, rfl⟩ := Option.map_eq_some_iff.1 hx
      rw [hp] at hy
      simp at hy
      subst hy
      obtain ⟨hjl, rfl⟩ := List.getElem?_eq_some_iff.1 hp
      exact (hpr j hjl).2.1
    · obtain ⟨p, hp, rfl⟩ := List.mem_map.1 hx
      obtain ⟨j, hjl, rfl⟩ := List.getElem_of_mem hp
      exact (hpr j hjl).2.2.1
    · obtain ⟨p, hp, rfl⟩ := List.mem_map.1 hx
      obtain ⟨j, hjl, rfl⟩ := List.getElem_of_mem hp
      exact (hpr j hjl).2.2.2
end Go.Proofs.YtagkgfniihiinaaGreatDoor
