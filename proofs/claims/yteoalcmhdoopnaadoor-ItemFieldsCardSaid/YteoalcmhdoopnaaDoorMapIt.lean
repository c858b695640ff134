/- A map of texts in the heap: as a function; a walk over it. No number of this program's stands here. -/
import Derived.Test.YteoalcmhdoopnaaDoorBase
import Derived.Maps.Range
import Derived.Maps.RangeRun
namespace Go.Proofs.YteoalcmhdoopnaaDoor
open Go.RowKit

section
variable {κ : Type} [DecidableEq κ]
theorem keys_set (l : List (κ × Value)) (k : κ) (v : Value) : (l.map (fun p => if p.1 = k then (k, v) else p)).map (·.1) = l.map (·.1) := by
  rw [List.map_map]
  have : ((fun p : κ × Value => p.1) ∘ fun p => if p.1 = k then (k, v) else p) = fun p => p.1 := by
    funext p; by_cases hp : p.1 = k <;> simp [hp]
  rw [this]
theorem alook_ains {l : List (κ × Value)} (hn : (l.map (·.1)).Nodup) (k : κ) (v : Value) (k' : κ) : alook (ains l k v) k' = if k' = k then some v else alook l k' := by
  have hd : ∀ (l : List (κ × Value)) (a : κ), a ≠ k → alook (l.map (fun p => if p.1 = k then (k, v) else p)) a = alook l a := by
    intro l a ha
    induction l with
    | nil => rfl
    | cons p l ih =>
      simp only [alook, List.map_cons, List.find?_cons] at ih ⊢
      by_cases hp : p.1 = k
      · simp only [hp, if_true]
        rw [show (decide (k = a)) = false by simp [Ne.symm ha]]
        exact ih
      · simp only [hp, if_false]
        by_cases hpa : p.1 = a
        · simp [hpa]
        · rw [show decide (p.1 = a) = false by simp [hpa]]; exact ih
  unfold ains
  split
  · rename_i hk
    by_cases he : k' = k
    · subst he
      rw [if_pos rfl]
      refine alook_of_mem (by rw [keys_set]; exact hn) ?_
      obtain ⟨p, hp, rfl⟩ := List.mem_map.1 hk
      exact List.mem_map.2 ⟨p, hp, by simp⟩
    · rw [if_neg he]; exact hd l k' he
  · rename_i hk
    by_cases he : k' = k
    · subst he
      rw [if_pos rfl]
      refine alook_of_mem (by rw [List.map_append, List.nodup_append]; exact ⟨hn, by simp, fun a ha b hb => by simp at hb; subst hb; exact fun e => hk (e ▸ ha)⟩) (by simp)
    · rw [if_neg he, alook, alook, List.find?_append]
      simp [show ¬ k = k' from fun e => he e.symm]
theorem keys_ains (l : List (κ × Value)) (k : κ) (v : Value) : (ains l k v).map (·.1) = if k ∈ l.map (·.1) then l.map (·.1) else l.map (·.1) ++ [k] := by
  unfold ains
  split
  · exact keys_set l k v
  · simp
end
/-- Block m is a map of texts that holds what f says, each key once. -/
def TMap (w : World) (m : Nat) (f : ByteArray → Option ByteArray) : Prop := ∃ l, AMap strKey w m l ∧ ∀ k, alook l k = (f k).map Value.string
theorem TMap.lt {w : World} {m : Nat} {f : ByteArray → Option ByteArray} (h : TMap w m f) : m < w.heap.size := let ⟨_, h, _⟩ := h; h.lt
theorem TMap.of_block {w w' : World} {m : Nat} {f : ByteArray → Option ByteArray} (h : TMap w m f) (hb : w'.heap[m]? = w.heap[m]?) : TMap w' m f := let ⟨l, h1, h2⟩ := h; ⟨l, h1.of_block hb, h2⟩
theorem TMap.below {w w' : World} {B m : Nat} {f : ByteArray → Option ByteArray} (h : TMap w m f) (hb : Below B w w') (hm : m < B) : TMap w' m f := h.of_block (hb.block _ hm)
theorem TMap.new {w : World} {m : Nat} (h : w.heap[m]? = some (.map #[] 0)) : TMap w m (fun _ => none) := ⟨[], ⟨by simp, #[], 0, h, rfl, by simp, by simp⟩, fun _ => rfl⟩
theorem TMap.look {P : Program} {w : World} {m : Nat} {f : ByteArray → Option ByteArray} (h : TMap w m f) {t kt e : TypeId} (ht : P.underlying t = some (.map kt e)) (hk : P.underlying kt = some strKey.kind)
    (hz : ∀ W, (zeroValue e).run P W = .ok (.string ⟨#[]⟩) W) (k : ByteArray) : (Instr.lookup t (.map (some m)) (.string k) false).run P w = .ok (.string ((f k).getD ⟨#[]⟩)) w := by
  obtain ⟨l, h1, h2⟩ := h
  have := h1.lookup ht hk hz k false
  rw [h2] at this
  cases hf : f k with
  | none => rw [hf] at this; exact this
  | some x => rw [hf] at this; exact this
theorem TMap.put {P : Program} {w : World} {m : Nat} {f : ByteArray → Option ByteArray} (h : TMap w m f) {t kt e : TypeId} (ht : P.underlying t = some (.map kt e)) (hk : P.underlying kt = some strKey.kind) (k v : ByteArray) :
    ∃ o, (Instr.mapUpdate t (.map (some m)) (.string k) (.string v)).run P w = .ok () (setB w m o) ∧ ∀ W, W.heap[m]? = some o → TMap W m (fun k' => if k' = k then some v else f k') := by
  obtain ⟨l, h1, h2⟩ := h
  obtain ⟨o, hr, ho⟩ := h1.update ht hk k (.string v)
  refine ⟨o, hr, fun W hW => ⟨_, ho W hW, fun k' => ?_⟩⟩
  rw [alook_ains h1.nodup, h2]
  by_cases e : k' = k <;> simp [e]
/-- How many it holds, held against a list of pairs with each name once. -/
theorem TMap.len {w : World} {m : Nat} {f : ByteArray → Option ByteArray} (h : TMap w m f) (ns : List ByteArray) (hn : ns.Nodup) (hf : ∀ k, (f k).isSome = true ↔ k ∈ ns) : ∃ l, AMap strKey w m l ∧ l.length = ns.length := by
  obtain ⟨l, h1, h2⟩ := h
  refine ⟨l, h1, ?_⟩
  have hp : (l.map (·.1)).Perm ns := by
    rw [List.perm_ext_iff_of_nodup h1.nodup hn]
    intro k
    have h3 : k ∉ l.map (·.1) ↔ alook l k = none := alook_none.symm
    rw [← hf]
    cases hk : f k with
    | none =>
      rw [h2, hk] at h3
      exact ⟨fun h => absurd h (h3.2 rfl), fun h => by cases h⟩
    | some x =>
      rw [h2, hk] at h3
      exact ⟨fun _ => rfl, fun _ => Classical.byContradiction fun h => by cases h3.1 h⟩
  simpa using hp.length_eq

/-- A walk over the map of texts m, its iterator in block ib. -/
structure Ranging (wr : World) (m ib : Nat) (l : List (ByteArray × Value)) : Prop where
  ex : ∃ (es : Array MapEntry) (clock : Nat) (seen : Array Nat), wr.heap[m]? = some (.map es clock) ∧ wr.heap[ib]? = some (.mapIter (some m) clock seen clock) ∧ es.toList.map (fun e => (e.key, e.val)) = l.map (fun p => (strKey.emb p.1, p.2)) ∧
    es.toList.Pairwise (fun x y => x.born < y.born) ∧ ∀ e ∈ es.toList, e.born < clock
theorem Ranging.start {P : Program} {w : World} {m : Nat} {l : List (ByteArray × Value)} (h : AMap strKey w m l) {t k e : TypeId} (ht : P.underlying t = some (.map k e)) :
    ∃ o, (Instr.range t (.map (some m))).run P w = .ok (.pointer (some ⟨w.heap.size, 0, none⟩)) (w.alloc o) ∧ Ranging (w.alloc o) m w.heap.size l := by
  obtain ⟨es, clock, hm, h1, h2, h3⟩ := h.held
  exact ⟨_, run_range_map w t k e m es clock ht hm, ⟨es, clock, #[], (heap_alloc_old w _ h.lt).trans hm, heap_alloc_new w _, h1, h2, h3⟩⟩
theorem Ranging.of_block {w w' : World} {m ib : Nat} {l : List (ByteArray × Value)} (h : Ranging w m ib l) (h1 : w'.heap[m]? = w.heap[m]?) (h2 : w'.heap[ib]? = w.heap[ib]?) : Ranging w' m ib l :=
  let ⟨es, c, s, a, b, r⟩ := h.ex; ⟨es, c, s, h1.trans a, h2.trans b, r⟩
theorem rangeLeft_of {w w' : World} {m ib : Nat} (h1 : w'.heap[m]? = w.heap[m]?) (h2 : w'.heap[ib]? = w.heap[ib]?) : w'.rangeLeft m ib = w.rangeLeft m ib := by
  simp only [World.rangeLeft, h1, h2]
theorem Ranging.next {P : Program} {wr : World} {m ib : Nat} {l : List (ByteArray × Value)} (h : Ranging wr m ib l) (hne : ib ≠ m) :
    (∀ ty, (Instr.next (.pointer (some ⟨ib, 0, none⟩)) false ty).run P wr = .ok (.tuple #[.bool false]) wr) ∨
    ∃ (p : ByteArray × Value) (W : World), p ∈ l ∧ (∀ ty, (Instr.next (.pointer (some ⟨ib, 0, none⟩)) false ty).run P wr = .ok (.tuple #[.bool true, .string p.1, p.2]) W) ∧
      (Instr.entry (.pointer (some ⟨ib, 0, none⟩))).run P W = .ok (.tuple #[.string p.1, p.2]) W ∧ Ranging W m ib l ∧ Fr (fun q => q = ib) wr W ∧ W.rangeLeft m ib < wr.rangeLeft m ib := by
  obtain ⟨es, clock, seen, hm, hi, hes, hb, hlt⟩ := h.ex
  have hbn : (es.toList.map (·.born)).Nodup := by
    rw [List.nodup_iff_pairwise_ne, List.pairwise_map]
    exact hb.imp (fun h => by omega)
  have hmeas : wr.rangeLeft m ib = (leftOf es seen).size := by simp only [World.rangeLeft, hm, hi]
  by_cases h0 : (leftOf es seen).size = 0
  · left
    intro ty
    rcases run_next_at (P := P) wr ty ib m clock clock seen es clock hi hm hlt (Nat.le_refl _) with ⟨_, hnext⟩ | ⟨e, he, _⟩
    · exact hnext
    · have : (leftOf es seen).toList = [] := by rw [← List.length_eq_zero_iff, Array.length_toList]; exact h0
      rw [this] at he; cases he
  · right
    rcases run_next_at (P := P) wr 0 ib m clock clock seen es clock hi hm hlt (Nat.le_refl _) with ⟨h1, _⟩ | ⟨e, he, w1, hw1, hnext⟩
    · exact absurd h1 h0
    have hi1 : w1.heap[ib]? = some (.mapIter (some m) clock seen clock) := by rcases hw1 with rfl | rfl <;> exact hi
    have hm1 : w1.heap[m]? = some (.map es clock) := by rcases hw1 with rfl | rfl <;> exact hm
    have hf1 : Fr (fun q => q = ib) wr w1 := by rcases hw1 with rfl | rfl; exact Fr.refl _ _; exact (Fr.refl _ _).drew
    have hs := MapKept.heap_set (o' := .mapIter (some m) clock (seen.push e.born) clock) hi1
    obtain ⟨hem, hes1⟩ := mem_left he
    have hm2 : (ChangeMaps.setBlock w1 ib (.mapIter (some m) clock (seen.push e.born) clock)).heap[m]? = some (.map es clock) := (hs.2 m (Ne.symm hne)).trans hm1
    have hi2 : (ChangeMaps.setBlock w1 ib (.mapIter (some m) clock (seen.push e.born) clock)).heap[ib]? = some (.mapIter (some m) clock (seen.push e.born) clock) := hs.1
    have hent := run_entry_at (P := P) (ChangeMaps.setBlock w1 ib (.mapIter (some m) clock (seen.push e.born) clock)) ib m clock seen es clock e hs.1 hm2 hem hbn
    have h1 : (e.key, e.val) ∈ es.toList.map (fun e => (e.key, e.val)) := List.mem_map.2 ⟨e, hem, rfl⟩
    rw [hes] at h1
    obtain ⟨p, hp, hpe⟩ := List.mem_map.1 h1
    simp only [Prod.mk.injEq] at hpe
    obtain ⟨hk, hv⟩ := hpe
    have hk' : e.key = .string p.1 := hk.symm
    rw [hk', ← hv] at hent hnext
    refine ⟨p, _, hp, fun ty => hnext, hent, ⟨es, clock, _, hm2, hs.1, hes, hb, hlt⟩, ⟨hf1.os, hf1.tape, hf1.output, by simpa [ChangeMaps.setBlock] using hf1.size, fun i hi' hm' => (hs.2 i hm').trans (hf1.block i hi' hm')⟩, ?_⟩
    rw [hmeas, show (ChangeMaps.setBlock w1 ib (.mapIter (some m) clock (seen.push e.born) clock)).rangeLeft m ib = (leftOf es (seen.push e.born)).size by simp only [World.rangeLeft, hm2, hi2]]
    exact left_shrinks es seen e he
end Go.Proofs.YteoalcmhdoopnaaDoor
