/- Items and fields that came in, opened; the variables that are laid. -/
import Derived.Test.YteoalcmhdoopnaaDoorItem
import Derived.Test.YteoalcmhdoopnaaDoorOpen
import Derived.ProofKit
import Derived.OpenShut
import Derived.LaidMore
import Derived.LaidSub
import Derived.LaidLaws
import Derived.Lib.LaidTab
import Derived.Stop.LaidErr
import Derived.Lay
namespace Go.Proofs.YteoalcmhdoopnaaDoor
open Go.ChangeShapes Go.WideShapes Go.ChangeAt Go.RowKit Go.Deep

theorem open_fields {H : Type} {enc : TypeId × Value → H} {w : World} {fuel : Nat} {a : Option Addr} {n cap : Nat} {x : DataW H × List MemPlace} (h : DataW.trod enc Tryd.prog w 0 (fun _ => true) true fuel 22 [.slice a n cap] = some x) :
    ∃ fs : List Fld, RF w a n cap fs := by
  obtain ⟨_, h0 | ⟨ad, rfl, hi⟩⟩ := open_slice_rows Tryd.underlying22 Tryd.underlying30 (by kernel_rfl) (by kernel_rfl) h
  · obtain ⟨rfl, rfl⟩ := h0
    exact ⟨[], Reads.nil _ _ _ _⟩
  · have key : ∀ i, i < n → ∃ f : Fld, w.cell? (ad.add (i * 2)) = some (.string f.1) ∧ w.cell? (ad.add (i * 2 + 1)) = some (.string f.2) := fun i hin => by
      obtain ⟨ys, m, hys, hf⟩ := hi i hin
      obtain ⟨v0, y0, c0, _, t0⟩ := hf 0 _ rfl
      obtain ⟨v1, y1, c1, _, t1⟩ := hf 1 _ rfl
      obtain ⟨s0, e0, _⟩ := DataW.trod_string Tryd.underlying9 t0
      obtain ⟨s1, e1, _⟩ := DataW.trod_string Tryd.underlying9 t1
      simp only [List.cons.injEq, and_true] at e0 e1
      subst e0; subst e1
      exact ⟨(s0, s1), c0, c1⟩
    obtain ⟨fs, hfl, hfs⟩ := exists_list (R := fun i (f : Fld) => w.cell? (ad.add (i * 2)) = some (.string f.1) ∧ w.cell? (ad.add (i * 2 + 1)) = some (.string f.2)) n (fun i hin => key i hin)
    refine ⟨fs, some ad, cap, rfl, by rw [flds_len, hfl], fun j u hj => ?_⟩
    have hjl : j < (flds fs).length := (List.getElem?_eq_some_iff.1 hj).1
    rw [flds_len] at hjl
    have hjd : j / 2 < fs.length := by omega
    obtain ⟨h1, h2⟩ := hfs (j / 2) hjd
    have h00 := (hfs 0 (by omega)).1
    obtain ⟨b, o, rfl⟩ := add_plain (by simpa using h00)
    refine ⟨b, o, rfl, ?_⟩
    obtain ⟨g1, g2⟩ := flds_get (List.getElem?_eq_getElem hjd)
    rw [add_mk] at h1 h2
    rcases Nat.mod_two_eq_zero_or_one j with e | e
    · rw [show j / 2 * 2 = j by omega] at g1 h1
      rw [hj] at g1
      simp only [Option.some.injEq] at g1
      rw [g1]; exact h1
    · rw [show j / 2 * 2 + 1 = j by omega] at g2 h2
      rw [hj] at g2
      simp only [Option.some.injEq] at g2
      rw [g2]; exact h2

theorem three_of {cs : List Value} (h : cs.length = 3) : ∃ a b c, cs = [a, b, c] := by
  match cs, h with
  | [a, b, c], _ => exact ⟨a, b, c, rfl⟩
theorem open_item {H : Type} {enc : TypeId × Value → H} {w : World} {fuel : Nat} {cs : List Value} {x : DataW H × List MemPlace} (h : DataW.trod enc Tryd.prog w 0 (fun _ => true) true fuel 24 cs = some x) :
    ∃ (k : Int) (t : ByteArray) (a : Option Addr) (n cap : Nat) (fs : List Fld), cs = [.int .i64 k, .string t, .slice a n cap] ∧ RF w a n cap fs := by
  obtain ⟨xs, n, rfl, hx, hlen, hxl, hf⟩ := DataW.trod_struct Tryd.underlying24 h
  have hC : Tryd.prog.cellsOf 24 = 3 := by kernel_rfl
  rw [hC] at hlen
  obtain ⟨c0, c1, c2, rfl⟩ := three_of hlen
  have hx3 : xs.length = 3 := hxl
  have g : ∀ i (hi : i < xs.length), xs[i]? = some xs[i] := fun i hi => List.getElem?_eq_getElem hi
  have key : ∀ (i : Nat) (f : Field) (c : Value), _ → Tryd.prog.cellsOf f.type = 1 → (([c0, c1, c2] : List Value).drop f.offset).take 1 = [c] → DataW.trod enc Tryd.prog w 0 (fun _ => true) true n f.type [c] = xs[i]? := fun i f c h1 h2 h3 => by
    have := hf i f h1
    rw [h2, h3] at this
    exact this
  have f0 : DataW.trod enc Tryd.prog w 0 (fun _ => true) true n 3 [c0] = some xs[0] := (key 0 _ c0 rfl (by kernel_rfl) rfl).trans (g 0 (by omega))
  have f1 : DataW.trod enc Tryd.prog w 0 (fun _ => true) true n 9 [c1] = some xs[1] := (key 1 _ c1 rfl (by kernel_rfl) rfl).trans (g 1 (by omega))
  have f2 : DataW.trod enc Tryd.prog w 0 (fun _ => true) true n 22 [c2] = some xs[2] := (key 2 _ c2 rfl (by kernel_rfl) rfl).trans (g 2 (by omega))
  obtain ⟨k, e0, _⟩ := DataW.trod_int Tryd.underlying3 f0
  obtain ⟨t, e1, _⟩ := DataW.trod_string Tryd.underlying9 f1
  simp only [List.cons.injEq, and_true] at e0 e1
  subst e0; subst e1
  rcases DataW.trod_slice Tryd.underlying22 f2 with ⟨e5, _⟩ | ⟨ad, len, cap, elems, rest, m, _, e5, _⟩
  · simp only [List.cons.injEq, and_true] at e5
    subst e5
    exact ⟨k, t, none, 0, 0, [], rfl, Reads.nil _ _ _ _⟩
  · simp only [List.cons.injEq, and_true] at e5
    subst e5
    obtain ⟨fs, hfs⟩ := open_fields f2
    exact ⟨k, t, _, _, _, fs, rfl, hfs⟩

theorem two_of {cs : List Value} (h : cs.length = 2) : ∃ a b, cs = [a, b] := by
  match cs, h with
  | [a, b], _ => exact ⟨a, b, rfl⟩
theorem open_field {H : Type} {enc : TypeId × Value → H} {w : World} {fuel : Nat} {cs : List Value} {x : DataW H × List MemPlace} (h : DataW.trod enc Tryd.prog w 0 (fun _ => true) true fuel 30 cs = some x) :
    ∃ f : Fld, cs = [.string f.1, .string f.2] := by
  obtain ⟨xs, n, rfl, hx, hlen, hxl, hf⟩ := DataW.trod_struct Tryd.underlying30 h
  have hC : Tryd.prog.cellsOf 30 = 2 := by kernel_rfl
  rw [hC] at hlen
  obtain ⟨c0, c1, rfl⟩ := two_of hlen
  have hx3 : xs.length = 2 := hxl
  have g : ∀ i (hi : i < xs.length), xs[i]? = some xs[i] := fun i hi => List.getElem?_eq_getElem hi
  have key : ∀ (i : Nat) (f : Field) (c : Value), _ → Tryd.prog.cellsOf f.type = 1 → (([c0, c1] : List Value).drop f.offset).take 1 = [c] → DataW.trod enc Tryd.prog w 0 (fun _ => true) true n f.type [c] = xs[i]? := fun i f c h1 h2 h3 => by
    have := hf i f h1
    rw [h2, h3] at this
    exact this
  have f0 : DataW.trod enc Tryd.prog w 0 (fun _ => true) true n 9 [c0] = some xs[0] := (key 0 _ c0 rfl (by kernel_rfl) rfl).trans (g 0 (by omega))
  have f1 : DataW.trod enc Tryd.prog w 0 (fun _ => true) true n 9 [c1] = some xs[1] := (key 1 _ c1 rfl (by kernel_rfl) rfl).trans (g 1 (by omega))
  obtain ⟨t, e0, _⟩ := DataW.trod_string Tryd.underlying9 f0
  obtain ⟨u, e1, _⟩ := DataW.trod_string Tryd.underlying9 f1
  simp only [List.cons.injEq, and_true] at e0 e1
  subst e0; subst e1
  exact ⟨(t, u), rfl⟩

theorem star_err : "*" ++ "errors.errorString" = "*errors.errorString" := by decide
theorem row_err (u : TypeId) (h : Tryd.prog.typeName? 3 u = some "*errors.errorString") : u = 109 :=
  typeName_ptr_named (nm := "errors.errorString") (by rw [star_err]; kernel_rfl) (by kernel_rfl) (by decide) u (by rw [star_err]; exact h)
theorem nums_of {W : World} {laid : List (String × DataW Unit)} (h0 : laidMetH Tryd.prog laid W) (hp : (laid.all fun x => x.2.handleName?.isNone) = true)
    (e1 : laid.filter (fun x => x.1 == "internal/strconv.uint64pow10") = [("internal/strconv.uint64pow10", Lib.tabData .u64 Lib.pow10Tab)])
    (e2 : laid.filter (fun x => x.1 == "strconv.ErrSyntax") = [("strconv.ErrSyntax", .iface "*errors.errorString" (.ptr (.agg [.lit (.string [105, 110, 118, 97, 108, 105, 100, 32, 115, 121, 110, 116, 97, 120])])))])
    (e3 : laid.filter (fun x => x.1 == "strconv.ErrRange") = [("strconv.ErrRange", .iface "*errors.errorString" (.ptr (.agg [.lit (.string [118, 97, 108, 117, 101, 32, 111, 117, 116, 32, 111, 102, 32, 114, 97, 110, 103, 101])])))]) : Nums W := by
  rw [MakeChecks.laidMetH_plain _ _ _ hp] at h0
  have h1 := h0.filter (fun x => x.1 == "internal/strconv.uint64pow10")
  have h2 := h0.filter (fun x => x.1 == "strconv.ErrSyntax")
  have h3 := h0.filter (fun x => x.1 == "strconv.ErrRange")
  rw [e1] at h1
  rw [e2] at h2
  rw [e3] at h3
  refine ⟨Lib.tabIs_of_head (g := 3) (t := 103) (e := 81) (n := 20) (by kernel_rfl) (by kernel_rfl) Tryd.underlying103 Tryd.underlying81 (by kernel_rfl) (by kernel_rfl) h1, ?_, ?_⟩
  · obtain ⟨a, s, hv, _⟩ := laid_sentinel (g := 1) (ti := 72) (tp := 109) (te := 111) h2 glob_syn (by kernel_rfl) Tryd.underlying72 row_err Tryd.underlying109 Tryd.underlying111 rfl rfl Tryd.underlying9 (by kernel_rfl) (by kernel_rfl)
    exact ⟨_, _, hv⟩
  · obtain ⟨a, s, hv, _⟩ := laid_sentinel (g := 2) (ti := 72) (tp := 109) (te := 111) h3 glob_rng (by kernel_rfl) Tryd.underlying72 row_err Tryd.underlying109 Tryd.underlying111 rfl rfl Tryd.underlying9 (by kernel_rfl) (by kernel_rfl)
    exact ⟨_, _, hv⟩
end Go.Proofs.YteoalcmhdoopnaaDoor
