/- The acts of layer 23, opened. -/
import Derived.Test.YtlddjcfbapdjnaaOpenV
import Derived.Test.YtlddjcfbapdjnaaStale
namespace Go.Proofs.Ytlddjcfbapdjnaa
open Go.ChangeShapes Go.WideShapes Go.ChangeAt Go.RowKit Go.Deep

theorem nine_of {cs : List Value} (h : cs.length = 9) : ∃ a b c d e f g i j, cs = [a, b, c, d, e, f, g, i, j] := by
  match cs, h with
  | [a, b, c, d, e, f, g, i, j], _ => exact ⟨a, b, c, d, e, f, g, i, j, rfl⟩
theorem open_act {H : Type} {enc : TypeId × Value → H} {w : World} {fuel : Nat} {cs : List Value} {x : DataW H × List MemPlace} (h : DataW.trod enc Try.prog w 0 (fun _ => true) true fuel 58 cs = some x) :
    ∃ y : Act23, cs = y.cells ∧ RV w.cell? (cells6 y.v.kind y.v.text y.v.int y.v.real y.v.flag y.a y.v.list.length y.cap) y.v := by
  obtain ⟨xs, n, rfl, hx, hlen, hxl, hf⟩ := DataW.trod_struct Try.underlying58 h
  have hC : Try.prog.cellsOf 58 = 9 := by kernel_rfl
  rw [hC] at hlen
  obtain ⟨c0, c1, c2, c3, c4, c5, c6, c7, c8, rfl⟩ := nine_of hlen
  have hx4 : xs.length = 4 := hxl
  have g : ∀ i (hi : i < xs.length), xs[i]? = some xs[i] := fun i hi => List.getElem?_eq_getElem hi
  have key : ∀ (i m : Nat) (f : Field) (c : List Value), _ → Try.prog.cellsOf f.type = m → (([c0, c1, c2, c3, c4, c5, c6, c7, c8] : List Value).drop f.offset).take m = c → DataW.trod enc Try.prog w 0 (fun _ => true) true n f.type c = xs[i]? := fun i m f c h1 h2 h3 => by
    have := hf i f h1
    rw [h2, h3] at this
    exact this
  have f0 : DataW.trod enc Try.prog w 0 (fun _ => true) true n 3 [c0] = some xs[0] := (key 0 1 _ [c0] rfl (by kernel_rfl) rfl).trans (g 0 (by omega))
  have f1 : DataW.trod enc Try.prog w 0 (fun _ => true) true n 3 [c1] = some xs[1] := (key 1 1 _ [c1] rfl (by kernel_rfl) rfl).trans (g 1 (by omega))
  have f2 : DataW.trod enc Try.prog w 0 (fun _ => true) true n 9 [c2] = some xs[2] := (key 2 1 _ [c2] rfl (by kernel_rfl) rfl).trans (g 2 (by omega))
  have f3 : DataW.trod enc Try.prog w 0 (fun _ => true) true n 44 [c3, c4, c5, c6, c7, c8] = some xs[3] := (key 3 6 _ [c3, c4, c5, c6, c7, c8] rfl (by kernel_rfl) rfl).trans (g 3 (by omega))
  obtain ⟨k, e0, _⟩ := DataW.trod_int Try.underlying3 f0
  obtain ⟨m, e1, _⟩ := DataW.trod_int Try.underlying3 f1
  obtain ⟨t, e2, _⟩ := DataW.trod_string Try.underlying9 f2
  obtain ⟨v, a, cap, e3, hv⟩ := open_value _ _ _ f3
  simp only [List.cons.injEq, and_true] at e0 e1 e2
  subst e0; subst e1; subst e2
  rw [e3] at hv
  simp only [cells6, List.cons.injEq, and_true] at e3
  obtain ⟨rfl, rfl, rfl, rfl, rfl, rfl⟩ := e3
  exact ⟨⟨k, m, t, v, a, cap⟩, rfl, hv⟩
theorem open_acts23 {H : Type} {enc : TypeId × Value → H} {w : World} {fuel : Nat} {a : Option Addr} {len cap : Nat} {x : DataW H × List MemPlace}
    (h : DataW.trod enc Try.prog w 0 (fun _ => true) true fuel 53 [.slice a len cap] = some x) : ∃ acts, Acts w a len acts := by
  rcases open_slice Try.underlying53 h with ⟨h0, _⟩ | ⟨ad, len', cap', m, n, D, Pl, hcs, _, hl, _, hmm, _, hi⟩
  · simp at h0
    obtain ⟨rfl, rfl, rfl⟩ := h0
    exact ⟨[], rfl, fun j x hj => by simp at hj, by simp⟩
  · simp at hcs
    obtain ⟨rfl, rfl, rfl⟩ := hcs
    simp at hmm
    subst hmm
    have hC : Try.prog.cellsOf 58 = 9 := by kernel_rfl
    rw [hC] at hi
    obtain ⟨acts, hal, har⟩ := exists_list (R := fun i (y : Act23) => w.cells? 0 (ad.add (i * 9)) 9 = some y.cells ∧ RV w.cell? (cells6 y.v.kind y.v.text y.v.int y.v.real y.v.flag y.a y.v.list.length y.cap) y.v) len (fun i him => by
      obtain ⟨cs', h1, h2⟩ := hi i (by omega)
      obtain ⟨y, rfl, hv⟩ := open_act h2
      exact ⟨y, h1, hv⟩)
    refine ⟨acts, hal, fun j y hj => ?_, fun y hy => ?_⟩
    · obtain ⟨hjl, rfl⟩ := List.getElem?_eq_some_iff.1 hj
      obtain ⟨_, _, hat⟩ := World.cells?_some (har j hjl).1
      obtain ⟨_, _, hat0⟩ := World.cells?_some (har 0 (by omega)).1
      have e0 : w.cell? (ad.add 0) = some (.int .i64 (acts[0]'(by omega)).kind) := by
        have := hat0 0 (by omega)
        simpa [Addr.add, Act23.cells] using this
      obtain ⟨b0, o0, rfl⟩ := add_plain e0
      refine ⟨b0, o0, rfl, fun q u hu => ?_⟩
      have hq : q < 9 := by have := (List.getElem?_eq_some_iff.1 hu).1; simpa [Act23.cells] using this
      have := hat q hq
      rw [add_mk, add_mk, hu] at this
      exact this
    · obtain ⟨i, hi', rfl⟩ := List.getElem_of_mem hy
      exact (har i hi').2
end Go.Proofs.Ytlddjcfbapdjnaa
