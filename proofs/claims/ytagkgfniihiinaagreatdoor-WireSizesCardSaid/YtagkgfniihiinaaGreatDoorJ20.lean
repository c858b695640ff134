/- What the statements' arguments read as, opened; no number of this program's stands here. -/
import Derived.Test.YtagkgfniihiinaaGreatDoorBase
import Derived.ProofKit
import Derived.OpenShut
import Derived.ShutString
import Derived.ChangeOld
import Derived.Deep.Slices
import Derived.Deep.Fields
import Derived.ChangeSame
import Derived.Test.YtagkgfniihiinaaGreatDoorNums
import Derived.LaidMore
import Derived.LaidSub
import Derived.LaidLaws
import Derived.Lib.LaidTab
import Derived.Stop.LaidErr
import Derived.Lay
import Derived.Test.YtagkgfniihiinaaGreatDoorPreW
import Derived.Test.YtagkgfniihiinaaGreatDoorJ23
import Derived.Test.YtagkgfniihiinaaGreatDoorVal
import Derived.Test.YtagkgfniihiinaaGreatDoorJ18
namespace Go.Proofs.YtagkgfniihiinaaGreatDoor
open Go.ChangeShapes Go.WideShapes Go.ChangeAt Go.RowKit Go.Deep
section
variable {H : Type} {enc : TypeId × Value -> H} {P : Program} {w : World}
theorem D6 {W W' : World} (hl : laidOutB P = true) (hb : Below W.heap.size W W') : ∀ {ts : List TypeId} {vs : List Value} {ds : List (DataW H)} {ps : List MemPlace},
   (ts.all fun t => P.readableRec t && decide (t < P.types.size)) = true -> DataW.TrodAll enc P W 0 (fun _ => true) true ts vs ds ps -> DataW.TrodAll enc P W' 0 (fun b => decide (b < W.heap.size)) true ts vs ds ps
 | [], vs, ds, ps, _, h => by
   obtain ⟨rfl, rfl, rfl⟩ := trodAll_nil h
   exact trodAll_mk0
 | t :: ts, vs, ds, ps, hts, h => by
   obtain ⟨v, vs', d, ds', p, q, rfl, rfl, rfl, h1, h2⟩ := trodAll_cons h
   simp only [List.all_cons, Bool.and_eq_true, decide_eq_true_eq] at hts
   refine trodAll_cons_mk (Below.trod hl hts.1.1 hts.1.2 h1 hb ?_) (D6 hl hb (by simpa using hts.2) h2)
   obtain ⟨m, hm⟩ := h1
   exact DataW.trod_lt m _ _ _ hm
theorem Du {α : Type} {R : Nat -> α -> Prop} : ∀ (n : Nat), (∀ i, i < n -> ∃ x, R i x) -> ∃ l : List α, l.length = n /\ ∀ i (h : i < l.length), R i l[i]
 | 0, _ => ⟨[], rfl, fun i h => by simp at h⟩
 | n + 1, h => by
   obtain ⟨l, hl, hr⟩ := Du n (fun i hi => h i (by omega))
   obtain ⟨x, hx⟩ := h n (by omega)
   refine ⟨l ++ [x], by simp [hl], fun i hi => ?_⟩
   by_cases hn : i < l.length
   · rw [List.getElem_append_left hn]; exact hr i hn
   · simp at hi
     have : i = l.length := by omega
     subst this
     rw [List.getElem_append_right (by omega)]
     simpa [hl] using hx
theorem add_plain {ad : Addr} {v : Value} (h : w.cell? (ad.add 0) = some v) : ∃ b o, ad = ⟨b, o, none⟩ := by
 cases ad with
 | mk b o s =>
   cases s with
   | none => exact ⟨b, o, rfl⟩
   | some s =>
     simp [Addr.add, World.cell?] at h
     split at h <;> simp at h
theorem add_mk (b o j : Nat) : (⟨b, o, none⟩ : Addr).add j = ⟨b, o + j, none⟩ := by
 unfold Addr.add; split
 · rename_i h; simp [h]
 · rfl
end
end Go.Proofs.YtagkgfniihiinaaGreatDoor
namespace Go.Proofs.YtagkgfniihiinaaGreatDoor
open Go.ChangeShapes Go.WideShapes Go.ChangeAt Go.RowKit
theorem star_err : "*" ++ "errors.errorString" = "*errors.errorString" := by decide
theorem row_err (u : TypeId) (h : Tryz.prog.typeName? 3 u = some "*errors.errorString") : u = 246 :=
 typeName_ptr_named (nm := "errors.errorString") (by rw [star_err]; kernel_rfl) (by kernel_rfl) (by decide) u (by rw [star_err]; exact h)
theorem nums_of {W : World} {laid : List (String × DataW Unit)} (h0 : laidMetH Tryz.prog laid W) (hp : (laid.all fun x => x.2.handleName?.isNone) = true)
   (e1 : laid.filter (fun x => x.1 == "internal/strconv.uint64pow10") = [("internal/strconv.uint64pow10", Lib.tabData .u64 Lib.pow10Tab)])
   (e2 : laid.filter (fun x => x.1 == "strconv.ErrSyntax") = [("strconv.ErrSyntax", .iface "*errors.errorString" (.ptr (.agg [.lit (.string [105, 110, 118, 97, 108, 105, 100, 32, 115, 121, 110, 116, 97, 120])])))])
   (e3 : laid.filter (fun x => x.1 == "strconv.ErrRange") = [("strconv.ErrRange", .iface "*errors.errorString" (.ptr (.agg [.lit (.string [118, 97, 108, 117, 101, 32, 111, 117, 116, 32, 111, 102, 32, 114, 97, 110, 103, 101])])))]) : Nums W := by
 rw [MakeChecks.laidMetH_plain _ _ _ hp] at h0
 have h1 := h0.filter (fun x => x.1 == "internal/strconv.uint64pow10")
 have h2 := h0.filter (fun x => x.1 == "strconv.ErrSyntax")
 have h3 := h0.filter (fun x => x.1 == "strconv.ErrRange")
 rw [e1] at h1
 rw [e2] at h2
 rw [e3] at h3
 refine ⟨Lib.tabIs_of_head (g := 5) (t := 223) (e := 60) (n := 20) (by kernel_rfl) (by kernel_rfl) Tryz.underlying223 Tryz.underlying60 (by kernel_rfl) (by kernel_rfl) h1, ?_, ?_⟩
 · obtain ⟨a, s, hv, _⟩ := laid_sentinel (g := 3) (ti := 106) (tp := 246) (te := 248) h2 glob_syn (by kernel_rfl) Tryz.underlying106 row_err Tryz.underlying246 Tryz.underlying248 rfl rfl Tryz.underlying9 (by kernel_rfl) (by kernel_rfl)
   exact ⟨_, _, hv⟩
 · obtain ⟨a, s, hv, _⟩ := laid_sentinel (g := 4) (ti := 106) (tp := 246) (te := 248) h3 glob_rng (by kernel_rfl) Tryz.underlying106 row_err Tryz.underlying246 Tryz.underlying248 rfl rfl Tryz.underlying9 (by kernel_rfl) (by kernel_rfl)
   exact ⟨_, _, hv⟩
section
variable {H : Type} {enc : TypeId × Value -> H} {P : Program} {w : World} {base : Nat} {spare : Nat -> Bool} {held : Bool} {fuel : Nat} {t : TypeId} {cs : List Value} {x : DataW H × List MemPlace}
end
theorem rows_ok : Go.Pinned.pow10Rows = (List.range 696).map fun (i : Nat) => (hiT ((i : Int) - 348), loT ((i : Int) - 348)) := by decide +kernel
theorem pows_of {W : World} (h : laidMet Tryz.prog [("internal/strconv.pow10Tab", Go.Pinned.pow10Tab)] W) : Pows W := by
 obtain ⟨ps, ⟨g', t', cs, fuel, p, q, hg', ht', hvar, hd, _, _⟩, _⟩ := h
 obtain rfl : 8 = g' := Option.some.inj ((show Tryz.prog.globalNamed "internal/strconv.pow10Tab" = some 8 by kernel_rfl).symm.trans hg')
 obtain rfl : 290 = t' := Option.some.inj ((show (Tryz.prog.globals[8]?).map (·.type) = some 290 by kernel_rfl).symm.trans ht')
 obtain ⟨xs, m, rfl, hx, hl, hxl, hxs⟩ := DataW.trod_array (n := 696) (e := 289) Tryz.underlying290 hd
 have hxm : xs.map (·.1) = Go.Pinned.pow10Rows.map fun x => (DataW.agg [.lit (.int .u64 x.1), .lit (.int .u64 x.2)] : DataW Unit) := by
   have := congrArg Prod.fst hx
   simp only [Go.Pinned.pow10Tab, DataW.agg.injEq] at this
   exact this.symm
 have hc2 : Tryz.prog.cellsOf 289 = 2 := by kernel_rfl
 have hc1 : Tryz.prog.cellsOf 60 = 1 := by kernel_rfl
 rw [hc2] at hxs
 intro pw p0 p1
 obtain ⟨i, hi⟩ : ∃ i : Nat, pw = (i : Int) - 348 := ⟨(pw + 348).toNat, by omega⟩
 have hi9 : i < 696 := by omega
 have hix : (pw + 348).toNat = i := by omega
 rw [hix]
 have hrow : Go.Pinned.pow10Rows[i]? = some (hiT pw, loT pw) := by
   rw [rows_ok, List.getElem?_map, List.getElem?_range hi9, hi]; rfl
 have hxi : (xs.map (·.1))[i]? = some (DataW.agg [.lit (.int .u64 (hiT pw)), .lit (.int .u64 (loT pw))]) := by
   rw [hxm, List.getElem?_map, hrow]; rfl
 rw [List.getElem?_map, Option.map_eq_some_iff] at hxi
 obtain ⟨y, hy, hy1⟩ := hxi
 have he := hxs i hi9
 rw [hy] at he
 obtain ⟨ys, n, rfl, hyy, hyl, hys, hyf⟩ := DataW.trod_struct Tryz.underlying289 he
 have hym : ys.map (·.1) = [DataW.lit (.int .u64 (hiT pw)), .lit (.int .u64 (loT pw))] := by
   rw [hyy] at hy1
   simpa using hy1
 obtain ⟨y0, y1, rfl⟩ : ∃ y0 y1, ys = [y0, y1] := by
   match ys, hys with
   | [a, b], _ => exact ⟨a, b, rfl⟩
 simp only [List.map_cons, List.map_nil, List.cons.injEq, and_true] at hym
 have hf0 : DataW.trod (fun _ => ()) Tryz.prog W 0 (fun _ => true) false n 60 ((((cs.toList.drop (i * 2)).take 2).drop 0).take 1) = some y0 := by
   have := hyf 0 _ rfl
   rw [show (#[(_ : Field), _])[0].type = 60 from rfl, hc1] at this
   exact this
 have hf1 : DataW.trod (fun _ => ()) Tryz.prog W 0 (fun _ => true) false n 60 ((((cs.toList.drop (i * 2)).take 2).drop 1).take 1) = some y1 := by
   have := hyf 1 _ rfl
   rw [show (#[(_ : Field), _])[1].type = 60 from rfl, hc1] at this
   exact this
 have key : ∀ (k : Nat) (y : DataW Unit × List MemPlace) (z : Int), k < 2 -> DataW.trod (fun _ => ()) Tryz.prog W 0 (fun _ => true) false n 60 ((((cs.toList.drop (i * 2)).take 2).drop k).take 1) = some y -> y.1 = .lit (.int .u64 z) -> cs[i * 2 + k]? = some (.int .u64 z) := fun k y z hk hf hz => by
   obtain ⟨v, h1, h2, _⟩ := DataW.trod_int Tryz.underlying60 hf
   have h3 : v = z := by rw [h2] at hz; simpa using hz
   have h4 := congrArg (·[0]?) h1
   simp only [List.getElem?_take, List.getElem?_drop] at h4
   rw [if_pos (by omega), if_pos (by omega)] at h4
   rw [<- Array.getElem?_toList, <- h3]
   have h5 : i * 2 + (k + 0) = i * 2 + k := by omega
   rw [h5] at h4
   simpa using h4
 exact ⟨(World.var?_cell hg' hvar _).trans (by have := key 0 y0 _ (by omega) hf0 hym.1; simpa using this), (World.var?_cell hg' hvar _).trans (key 1 y1 _ (by omega) hf1 hym.2)⟩
theorem floF_of {W : World} {laid : List (String × DataW Unit)} (h0 : laidMetH Tryz.prog laid W) (hp : (laid.all fun x => x.2.handleName?.isNone) = true)
   (e1 : laid.filter (fun x => x.1 == "internal/strconv.uint64pow10") = [("internal/strconv.uint64pow10", Lib.tabData .u64 Lib.pow10Tab)])
   (e2 : laid.filter (fun x => x.1 == "internal/strconv.pow10Tab") = [("internal/strconv.pow10Tab", Go.Pinned.pow10Tab)]) : Flo W := by
 rw [MakeChecks.laidMetH_plain _ _ _ hp] at h0
 have h1 := h0.filter (fun x => x.1 == "internal/strconv.uint64pow10")
 have h2 := h0.filter (fun x => x.1 == "internal/strconv.pow10Tab")
 rw [e1] at h1
 rw [e2] at h2
 exact ⟨pows_of h2, Lib.tabIs_of_head (g := 5) (t := 223) (e := 60) (n := 20) (by kernel_rfl) (by kernel_rfl) Tryz.underlying223 Tryz.underlying60 (by kernel_rfl) (by kernel_rfl) h1⟩
end Go.Proofs.YtagkgfniihiinaaGreatDoor
namespace Go.Proofs.YtagkgfniihiinaaGreatDoor
open Go.ChangeShapes Go.WideShapes Go.ChangeAt Go.RowKit Go.Deep
theorem trod_float' {H : Type} {enc : TypeId × Value -> H} {P : Program} {w : World} {base : Nat} {spare : Nat -> Bool} {held : Bool} {fuel : Nat} {t : TypeId} {cs : List Value} {x : DataW H × List MemPlace} {k : FloatKind} (ht : P.underlying t = some (.float k))
   (h : DataW.trod enc P w base spare held fuel t cs = some x) : ∃ b, cs = [.float k b] := by
 cases fuel with
 | zero => simp [DataW.trod] at h
 | succ n =>
   unfold DataW.trod at h
   rw [ht] at h
   split at h <;> simp_all
theorem six_of {cs : List Value} (h : cs.length = 6) : ∃ a b c d e f, cs = [a, b, c, d, e, f] := by
 match cs, h with
 | [a, b, c, d, e, f], _ => exact ⟨a, b, c, d, e, f, rfl⟩
theorem sizedL_of {l : List V} (h : ∀ x ∈ l, x.sized) : V.sizedL l := by
 induction l with
 | nil => trivial
 | cons y l ih => exact ⟨h y (by simp), ih fun x hx => h x (by simp [hx])⟩
end Go.Proofs.YtagkgfniihiinaaGreatDoor
