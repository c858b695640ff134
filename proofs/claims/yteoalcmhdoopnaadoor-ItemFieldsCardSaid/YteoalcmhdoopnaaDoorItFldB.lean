/- ItemFields: what its walk holds: two items of the call's own, and a map. -/
import Derived.Test.YteoalcmhdoopnaaDoorItFldP
import Derived.Test.YteoalcmhdoopnaaDoorMapIt
import Derived.Test.YteoalcmhdoopnaaDoorItTxtL
namespace Go.Proofs.YteoalcmhdoopnaaDoor
open Go.RowKit

theorem owns_far {w : World} {B e size n m c : Nat} {aa : Option Addr} {xs : List Value} (h : w.ownsRow B e size (.slice aa m c) n xs) : ∀ ad, aa = some ad → B ≤ ad.block := fun ad he => by
  subst he
  rcases h.2 with ⟨h1, _⟩ | ⟨g, cap, cur, h1, h2, _⟩
  · cases h1
  · cases h1; exact h2
def kindF (fs : List Fld) : Int := if fs = [] then 0 else 2
theorem kindF_ne (fs : List Fld) : kindF fs ≠ 1 := by unfold kindF; split <;> decide
theorem kindF_two {fs : List Fld} (h : fs ≠ []) : kindF fs = 2 := by unfold kindF; rw [if_neg h]
/-- An item of fields in block o, its fields behind B. -/
structure It3 (W : World) (o B : Nat) (fs : List Fld) : Prop where
  ex : ∃ (aa : Option Addr) (na ca : Nat), W.cell? ⟨o, 0, none⟩ = some (.int .i64 (kindF fs)) ∧ W.cell? ⟨o, 1, none⟩ = some (.string ⟨#[]⟩) ∧ W.cell? ⟨o, 2, none⟩ = some (.slice aa na ca) ∧ RF W aa na ca fs ∧ (∀ ad, aa = some ad → 0 < na → B ≤ ad.block)
  blk : Blk W o
theorem It3.below {W W' : World} {o B : Nat} {fs : List Fld} (h : It3 W o B fs) (hb : Below W.heap.size W W') : It3 W' o B fs := by
  obtain ⟨⟨aa, na, ca, h0, h1, h2, h3, h4⟩, h5⟩ := h
  exact ⟨⟨aa, na, ca, bcell hb h0, bcell hb h1, bcell hb h2, h3.below hb, h4⟩, h5.of_block (hb.block _ h5.lt)⟩
theorem It3.fr {W W' : World} {o B q : Nat} {fs : List Fld} (h : It3 W o B fs) (hf : Fr (fun i => i = q) W W') (hq : q < B) (hne : o ≠ q) : It3 W' o B fs := by
  obtain ⟨⟨aa, na, ca, h0, h1, h2, h3, h4⟩, h5⟩ := h
  exact ⟨⟨aa, na, ca, hf.cell h0 hne, hf.cell h1 hne, hf.cell h2 hne, h3.apart hf (fun ad he hn => by have := h4 ad he hn; omega), h4⟩, h5.fr hf hne⟩
/-- The whole: h is the heap's size where it began. -/
structure FS (w0 W : World) (fa fb fm : List Fld) : Prop where
  a : It3 W w0.heap.size (w0.heap.size + 3) fa
  b : It3 W (w0.heap.size + 1) (w0.heap.size + 3) fb
  m : TMap W (w0.heap.size + 2) (getF fm)
  bel : Below w0.heap.size w0 W
  sz : w0.heap.size + 3 ≤ W.heap.size
theorem FS.below {w0 W W' : World} {fa fb fm : List Fld} (h : FS w0 W fa fb fm) (hb : Below W.heap.size W W') : FS w0 W' fa fb fm :=
  ⟨h.a.below hb, h.b.below hb, h.m.below hb (by have := h.sz; omega), h.bel.trans (hb.mono (by have := h.sz; omega)), by have := h.sz; have := hb.size; omega⟩
theorem FS.start (w1 : World) (X : Array Value) (hX : X = #[.int .i64 0, .string ⟨#[]⟩, .slice none 0 0]) : FS w1 (((w1.alloc (.cells X 24)).alloc (.cells X 24)).alloc (.map #[] 0)) [] [] [] := by
  subst hX
  obtain ⟨A, hA⟩ : ∃ A, A = w1.alloc (.cells #[.int .i64 0, .string ⟨#[]⟩, .slice none 0 0] 24) := ⟨_, rfl⟩
  obtain ⟨C, hC⟩ : ∃ C, C = A.alloc (.cells #[.int .i64 0, .string ⟨#[]⟩, .slice none 0 0] 24) := ⟨_, rfl⟩
  obtain ⟨D, hD⟩ : ∃ D, D = C.alloc (.map #[] 0) := ⟨_, rfl⟩
  rw [← hA, ← hC, ← hD]
  have bA : Below w1.heap.size w1 A := by rw [hA]; exact (Below.refl _ _).alloc (Nat.le_refl _) _
  have bC : Below A.heap.size A C := by rw [hC]; exact (Below.refl _ _).alloc (Nat.le_refl _) _
  have bD : Below C.heap.size C D := by rw [hD]; exact (Below.refl _ _).alloc (Nat.le_refl _) _
  have sA : A.heap.size = w1.heap.size + 1 := by rw [hA]; simp
  have sC : C.heap.size = w1.heap.size + 2 := by rw [hC]; simp [sA]
  have sD : D.heap.size = w1.heap.size + 3 := by rw [hD]; simp [sC]
  have iA : It3 A w1.heap.size (w1.heap.size + 3) [] := ⟨⟨none, 0, 0, by rw [hA, World.cell?_alloc_new]; rfl, by rw [hA, World.cell?_alloc_new]; rfl, by rw [hA, World.cell?_alloc_new]; rfl, Reads.nil _ _ _ _, fun _ h => by cases h⟩, by rw [hA]; exact Blk.new _ _ _⟩
  have iC : It3 C (w1.heap.size + 1) (w1.heap.size + 3) [] := by
    rw [← sA]
    exact ⟨⟨none, 0, 0, by rw [hC, World.cell?_alloc_new]; rfl, by rw [hC, World.cell?_alloc_new]; rfl, by rw [hC, World.cell?_alloc_new]; rfl, Reads.nil _ _ _ _, fun _ h => by cases h⟩, by rw [hC]; exact Blk.new _ _ _⟩
  refine ⟨(iA.below bC).below bD, iC.below bD, ?_, bA.trans ((bC.trans (bD.mono (by omega))).mono (by omega)), by omega⟩
  rw [← sC]
  have : D.heap[C.heap.size]? = some (.map #[] 0) := by rw [hD]; exact (MapKept.heap_alloc C _).1
  exact TMap.new this
theorem TMap.fr {w w' : World} {m q : Nat} {f : ByteArray → Option ByteArray} (h : TMap w m f) (hf : Fr (fun i => i = q) w w') (hne : m ≠ q) : TMap w' m f := h.of_block (hf.block m h.lt hne)
/-- A new item into a's cells. -/
theorem FS.seta {w0 W : World} {fa fb fm fs : List Fld} (h : FS w0 W fa fb fm) {aa : Option Addr} {na ca : Nat} (hr : RF W aa na ca fs) (hne : fs ≠ []) (hfar : ∀ ad, aa = some ad → 0 < na → w0.heap.size + 3 ≤ ad.block) {W' : World}
    (hW : W' = ((W.setCell ⟨w0.heap.size, 0, none⟩ (.int .i64 2)).setCell ⟨w0.heap.size, 1, none⟩ (.string ⟨#[]⟩)).setCell ⟨w0.heap.size, 2, none⟩ (.slice aa na ca)) : FS w0 W' fs fb fm := by
  obtain ⟨_, _, _, h0, h1, h2, _, _⟩ := h.a.ex
  obtain ⟨c0, c1, c2, c3, c4⟩ := box3 h0 h1 h2 h.a.blk (.int .i64 2) (.string ⟨#[]⟩) (.slice aa na ca)
  rw [← hW] at c0 c1 c2 c3 c4
  exact ⟨⟨⟨aa, na, ca, by rw [kindF_two hne]; exact c0, c1, c2, hr.apart c4 (fun ad he hn => by have := hfar ad he hn; omega), hfar⟩, c3⟩, h.b.fr c4 (by omega) (by omega), h.m.fr c4 (by omega), h.bel.trans (c4.below h.bel.size (fun i hi e => by omega)), Nat.le_trans h.sz c4.size⟩
theorem FS.setb {w0 W : World} {fa fb fm fs : List Fld} (h : FS w0 W fa fb fm) {aa : Option Addr} {na ca : Nat} (hr : RF W aa na ca fs) (hne : fs ≠ []) (hfar : ∀ ad, aa = some ad → 0 < na → w0.heap.size + 3 ≤ ad.block) {W' : World}
    (hW : W' = ((W.setCell ⟨w0.heap.size + 1, 0, none⟩ (.int .i64 2)).setCell ⟨w0.heap.size + 1, 1, none⟩ (.string ⟨#[]⟩)).setCell ⟨w0.heap.size + 1, 2, none⟩ (.slice aa na ca)) : FS w0 W' fa fs fm := by
  obtain ⟨_, _, _, h0, h1, h2, _, _⟩ := h.b.ex
  obtain ⟨c0, c1, c2, c3, c4⟩ := box3 h0 h1 h2 h.b.blk (.int .i64 2) (.string ⟨#[]⟩) (.slice aa na ca)
  rw [← hW] at c0 c1 c2 c3 c4
  exact ⟨h.a.fr c4 (by omega) (by omega), ⟨⟨aa, na, ca, by rw [kindF_two hne]; exact c0, c1, c2, hr.apart c4 (fun ad he hn => by have := hfar ad he hn; omega), hfar⟩, c3⟩, h.m.fr c4 (by omega), h.bel.trans (c4.below h.bel.size (fun i hi e => by omega)), Nat.le_trans h.sz c4.size⟩
/-- A put into the map. -/
theorem FS.put {w0 W : World} {fa fb fm : List Fld} (h : FS w0 W fa fb fm) (hs : Srt fm) (name text : ByteArray) :
    ∃ o, (Instr.mapUpdate 39 (.map (some (w0.heap.size + 2))) (.string name) (.string text)).run Tryd.prog W = .ok () (setB W (w0.heap.size + 2) o) ∧ FS w0 (setB W (w0.heap.size + 2) o) fa fb (putF fm name text) := by
  obtain ⟨o, h1, h2⟩ := h.m.put (P := Tryd.prog) Tryd.underlying39 Tryd.underlying9 name text
  have hf : Fr (fun i => i = w0.heap.size + 2) W (setB W (w0.heap.size + 2) o) := (Fr.refl (fun i => i = w0.heap.size + 2) W).setB (fun _ => rfl) o
  obtain ⟨l, hl, _⟩ := h.m
  obtain ⟨es, c, hm, _⟩ := hl.held
  refine ⟨o, h1, h.a.fr hf (by omega) (by omega), h.b.fr hf (by omega) (by omega), ?_, h.bel.trans (hf.below h.bel.size (fun i hi e => by omega)), Nat.le_trans h.sz hf.size⟩
  have := h2 _ (setB_same hm)
  have e : (fun k' => if k' = name then some text else getF fm k') = getF (putF fm name text) := by funext k; rw [getF_put hs]
  rw [e] at this
  exact this
theorem FS.rangeNeA {w0 W : World} {fa fb fm : List Fld} (h : FS w0 W fa fb fm) : w0.heap.size + 2 < W.heap.size := by have := h.sz; omega
end Go.Proofs.YteoalcmhdoopnaaDoor
