/- A list of values that came in, opened. -/
import Derived.Test.YtapiinfnedhmoaaDoorOpenS
namespace Go.Proofs.YtapiinfnedhmoaaDoor
open Go.ChangeShapes Go.WideShapes Go.ChangeAt Go.RowKit Go.Deep

theorem open_list {H : Type} {enc : TypeId × Value → H} {w : World} {fuel : Nat} {a : Option Addr} {n cap : Nat} {x : DataW H × List MemPlace} (h : DataW.trod enc Tryd.prog w 0 (fun _ => true) true fuel 23 [.slice a n cap] = some x) :
    ∃ l : List V, RV w.cell? (cells6 5 ⟨#[]⟩ 0 0 false a n cap) (.mk 5 ⟨#[]⟩ 0 0 false l) ∧ V.sizedL l := by
  rcases DataW.trod_slice Tryd.underlying23 h with ⟨e5, _⟩ | ⟨ad, len, cap', elems, rest, m, rfl, e5, _, _, hlc, _, hel, hi, _⟩
  · simp only [List.cons.injEq, and_true, Value.slice.injEq] at e5
    obtain ⟨rfl, rfl, rfl⟩ := e5
    exact ⟨[], RV.leaf _ _ _ _ _ _ _ _, trivial⟩
  · simp only [List.cons.injEq, and_true, Value.slice.injEq] at e5
    obtain ⟨rfl, rfl, rfl⟩ := e5
    have hC : Tryd.prog.cellsOf 25 = 6 := by kernel_rfl
    rw [hC] at hi
    obtain ⟨ps, hpl, hpr⟩ := exists_list (R := fun j (p : List Value × V) => w.cells? 0 (ad.add (j * 6)) 6 = some p.1 ∧ RV w.cell? p.1 p.2 ∧ p.2.sized) n (fun j hj => by
      have h1 := hi j hj
      rw [List.getElem?_eq_getElem (by omega)] at h1
      obtain ⟨cs', h2, h3⟩ := Option.bind_eq_some_iff.1 h1
      obtain ⟨v, _, _, _, hv, hvs⟩ := open_valueS m cs' _ h3
      exact ⟨(cs', v), h2, hv, hvs⟩)
    refine ⟨ps.map (·.2), RV.mk 5 ⟨#[]⟩ 0 0 false (some ad) n cap (ps.map (·.2)) (ps.map (·.1)) (by simp [hpl]) (by simp) (fun j x hx => ?_) (fun j x y hx hy => ?_), sizedL_of fun x hx => ?_⟩
    · obtain ⟨p, hp, rfl⟩ := List.mem_map.1 (List.mem_of_getElem? hx)
      rw [List.getElem?_map] at hx
      obtain ⟨p', hp', hpe⟩ := Option.map_eq_some_iff.1 hx
      obtain ⟨hjl, rfl⟩ := List.getElem?_eq_some_iff.1 hp'
      obtain ⟨_, h6, hat⟩ := World.cells?_some (hpr j hjl).1
      have h60 := hpr 0 (by omega)
      obtain ⟨_, h60', hat0⟩ := World.cells?_some h60.1
      have e0 : w.cell? (ad.add 0) = some (ps[0].1[0]'(by omega)) := by
        have := hat0 0 (by omega)
        rw [List.getElem?_eq_getElem (by omega)] at this
        simpa [Addr.add] using this
      obtain ⟨b0, o0, rfl⟩ := add_plain e0
      refine ⟨b0, o0, rfl, fun q u hu => ?_⟩
      rw [← hpe] at hu
      have hq : q < 6 := by have := (List.getElem?_eq_some_iff.1 hu).1; omega
      have := hat q hq
      rw [add_mk, add_mk, hu] at this
      exact this
    · rw [List.getElem?_map] at hx hy
      obtain ⟨p, hp, rfl⟩ := Option.map_eq_some_iff.1 hx
      rw [hp] at hy
      simp at hy
      subst hy
      obtain ⟨hjl, rfl⟩ := List.getElem?_eq_some_iff.1 hp
      exact (hpr j hjl).2.1
    · obtain ⟨p, hp, rfl⟩ := List.mem_map.1 hx
      obtain ⟨j, hjl, rfl⟩ := List.getElem_of_mem hp
      exact (hpr j hjl).2.2
end Go.Proofs.YtapiinfnedhmoaaDoor
