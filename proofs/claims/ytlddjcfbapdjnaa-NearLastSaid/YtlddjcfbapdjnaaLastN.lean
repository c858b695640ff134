/- NearLast: its plain law. -/
import Derived.Test.YtlddjcfbapdjnaaLaw23
import Derived.Test.YtlddjcfbapdjnaaFMap
namespace Go.Proofs.Ytlddjcfbapdjnaa
open Go.RowKit

/-- The key that nobody else has. -/
abbrev kN : ByteArray := ⟨#[97, 32, 107, 101, 121, 32, 116, 104, 97, 116, 32, 110, 111, 98, 111, 100, 121, 32, 101, 108, 115, 101, 32, 104, 97, 115]⟩
/-- The keys, one filled now, none ahead of the capacity. -/
def pushed (most : Int) (ks : List ByteArray) (k : ByteArray) : List ByteArray := if most < (touch ks k).length then (touch ks k).tail else touch ks k
structure SL (s : NS) (ks : List ByteArray) (most : Int) (i : Nat) : Prop where
  ts : s.ts = [(1, kN)]
  keys : s.keys = ks
  cap : s.most = most
  last : 1 ≤ s.last ∧ s.last ≤ i + 1
  len : (ks.length : Int) ≤ most
  nd : ks.Nodup
theorem touch_nodup {ks : List ByteArray} {k : ByteArray} (h : ks.Nodup) : (touch ks k).Nodup := by
  rw [touch, List.nodup_append]
  exact ⟨h.sublist List.filter_sublist, by simp, fun a ha b hb => by simp at hb; subst hb; have := (List.mem_filter.1 ha).2; simpa using this⟩
theorem pushed_nodup {most : Int} {ks : List ByteArray} {k : ByteArray} (h : ks.Nodup) : (pushed most ks k).Nodup := by
  unfold pushed
  split
  · exact (touch_nodup h).sublist (List.tail_sublist _)
  · exact touch_nodup h
theorem pushed_len {most : Int} {ks : List ByteArray} {k : ByteArray} (h : (ks.length : Int) ≤ most) : ((pushed most ks k).length : Int) ≤ most := by
  have := touch_len ks k
  unfold pushed
  split
  · rw [List.length_tail]; omega
  · omega
theorem SL.fill {s : NS} {ks : List ByteArray} {most : Int} {i : Nat} (h : SL s ks most i) (k : ByteArray) (v : V) : SL ((s.begin k).fill (s.last + 1) v) (pushed most ks k) most (i + 1) := by
  have hl := h.last
  have h1 : lookT (s.begin k).ts (s.last + 1) = some k := by
    simp only [NS.begin, h.ts, lookT, List.cons_append, List.nil_append, List.find?_cons]
    rw [show decide ((1 : Int) = s.last + 1) = false by simp; omega]
    simp
  have h2 : ((s.begin k).without (s.last + 1)).ts = [(1, kN)] := by
    simp only [NS.begin, NS.without, h.ts, List.cons_append, List.nil_append, List.filter_cons]
    rw [show decide ((1 : Int) ≠ s.last + 1) = true by simp; omega]
    simp
  have hk := h.keys
  have e1 : ((putE s.es k v).length : Int) = ((touch ks k).length : Int) := by
    rw [← hk, NS.keys, ← keys_put s.es k v, List.length_map]
  have hkeys : ((s.begin k).fill (s.last + 1) v).keys = pushed most ks k ∧ ((s.begin k).fill (s.last + 1) v).ts = [(1, kN)] ∧ ((s.begin k).fill (s.last + 1) v).most = most ∧ ((s.begin k).fill (s.last + 1) v).last = s.last + 1 := by
    unfold NS.fill
    rw [h1]
    simp only
    split
    · rename_i hm
      have hm0 : most = 0 := by rw [← h.cap]; exact hm
      have hks : ks = [] := by have := h.len; have : ks.length = 0 := by omega
                               exact List.length_eq_zero_iff.1 this
      refine ⟨?_, h2, h.cap, rfl⟩
      show s.keys = _
      rw [hk, hks, hm0]
      simp [pushed, touch]
    · refine ⟨?_, h2, h.cap, rfl⟩
      show List.map _ (if s.most < ((putE s.es k v).length : Int) then (putE s.es k v).tail else putE s.es k v) = _
      rw [h.cap, e1, pushed]
      split
      · rw [List.map_tail, keys_put]; rw [← hk]; rfl
      · rw [keys_put]; rw [← hk]; rfl
  obtain ⟨g1, g2, g3, g4⟩ := hkeys
  exact ⟨g2, g1, g3, by rw [g4]; omega, pushed_len h.len, pushed_nodup h.nd⟩
theorem pushed_drop {most : Int} {ks : List ByteArray} {k : ByteArray} (hl : (ks.length : Int) ≤ most) : (pushed most ks k).filter (fun x => x ≠ k) = (pushed most ks k).take ((pushed most ks k).length - 1) := by
  have hx : ∀ x ∈ ks.filter (fun x => x ≠ k), x ≠ k := fun x hx => by have := (List.mem_filter.1 hx).2; simpa using this
  have key : ∀ l : List ByteArray, (∀ x ∈ l, x ≠ k) → (l ++ [k]).filter (fun x => x ≠ k) = (l ++ [k]).take ((l ++ [k]).length - 1) := fun l h => by
    rw [List.filter_append, List.filter_eq_self.2 (fun x hx => by simpa using h x hx)]
    simp
  unfold pushed
  split
  · rw [touch]
    cases hf : ks.filter (fun x => x ≠ k) with
    | nil => simp
    | cons y l =>
      rw [hf] at hx
      rw [List.cons_append, List.tail_cons]
      exact key l (fun x h => hx x (List.mem_cons_of_mem _ h))
  · exact key _ hx
theorem SL.drop {s : NS} {ks : List ByteArray} {most : Int} {i : Nat} (h : SL s ks most i) {k : ByteArray} (hk : k ≠ kN) : SL (s.drop k) (ks.filter (fun x => x ≠ k)) most i := by
  refine ⟨?_, ?_, h.cap, h.last, ?_, h.nd.sublist List.filter_sublist⟩
  · show s.ts.filter _ = _
    rw [h.ts]
    simp [Ne.symm hk]
  · show (s.es.filter _).map _ = _
    rw [keys_filter, ← h.keys]; rfl
  · have := List.length_filter_le (fun x : ByteArray => decide (x ≠ k)) ks
    have := h.len
    omega
theorem SL.fills {s : NS} {ks : List ByteArray} {most : Int} {i : Nat} (h : SL s ks most i) : s.fills 1 = decide (most ≠ 0) := by
  simp [NS.fills, lookT, h.ts, h.cap]
theorem SL.end_ {s : NS} {ks : List ByteArray} {most : Int} {i : Nat} (h : SL s ks most i) (v : V) : (s.fill 1 v).ts = [] := by
  unfold NS.fill
  have : lookT s.ts 1 = some kN := by simp [lookT, h.ts]
  rw [this]
  simp only
  have h0 : (s.without 1).ts = [] := by simp [NS.without, h.ts]
  split
  · exact h0
  · exact h0
end Go.Proofs.Ytlddjcfbapdjnaa
