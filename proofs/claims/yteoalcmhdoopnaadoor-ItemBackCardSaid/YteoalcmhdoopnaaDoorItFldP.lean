/- Fields put in any order: the plain law. No program in sight but for the items' names; a map in the heap as a function. -/
import Derived.Test.YteoalcmhdoopnaaDoorItAll
import Derived.Laws.IdiomRangeMap
namespace Go.Proofs.YteoalcmhdoopnaaDoor
open Go.RowKit

/-- All put, one behind the other. -/
def putAll (l : List Fld) : List Fld := l.foldl (fun a f => putF a f.1 f.2) []
theorem putAll_succ {l : List Fld} {i : Nat} {f : Fld} (h : l[i]? = some f) : putAll (l.take (i + 1)) = putF (putAll (l.take i)) f.1 f.2 := by
  obtain ⟨hi, rfl⟩ := List.getElem?_eq_some_iff.1 h
  unfold putAll
  rw [List.take_succ_eq_append_getElem hi, List.foldl_append]
  rfl
theorem srt_foldl (l : List Fld) : ∀ a, Srt a → Srt (l.foldl (fun a f => putF a f.1 f.2) a) := by
  induction l with
  | nil => exact fun a h => h
  | cons x l ih => exact fun a h => ih _ (srt_putF h _ _)
theorem srt_putAll (l : List Fld) : Srt (putAll l) := srt_foldl l [] List.Pairwise.nil
/-- All put from the end, each with the text that F has for it. -/
def putBack (F : List Fld) : List Fld → List Fld
  | [] => []
  | x :: l => putF (putBack F l) x.1 ((getF F x.1).getD ⟨#[]⟩)
theorem putBack_drop {F l : List Fld} {i : Nat} {f : Fld} (h : l[i]? = some f) : putBack F (l.drop i) = putF (putBack F (l.drop (i + 1))) f.1 ((getF F f.1).getD ⟨#[]⟩) := by
  obtain ⟨hi, rfl⟩ := List.getElem?_eq_some_iff.1 h
  rw [List.drop_eq_getElem_cons hi]
  rfl
theorem srt_putBack (F l : List Fld) : Srt (putBack F l) := by
  induction l with
  | nil => exact List.Pairwise.nil
  | cons x l ih => exact srt_putF ih _ _
theorem getF_nil (n : ByteArray) : getF [] n = none := rfl
theorem getF_putBack (F l : List Fld) (n : ByteArray) : getF (putBack F l) n = if n ∈ l.map (·.1) then some ((getF F n).getD ⟨#[]⟩) else none := by
  induction l with
  | nil => rfl
  | cons x l ih =>
    show getF (putF (putBack F l) x.1 ((getF F x.1).getD ⟨#[]⟩)) n = _
    rw [getF_put (srt_putBack F l), ih, List.map_cons]
    by_cases h : n = x.1
    · rw [if_pos h, if_pos (by rw [h]; exact List.mem_cons_self), h]
    · rw [if_neg h]
      by_cases h2 : n ∈ l.map (·.1)
      · rw [if_pos h2, if_pos (List.mem_cons_of_mem _ h2)]
      · rw [if_neg h2, if_neg (fun hm => (List.mem_cons.1 hm).elim h h2)]
theorem has_foldl (l : List Fld) (n : ByteArray) : ∀ a, Srt a → (getF (l.foldl (fun a f => putF a f.1 f.2) a) n).isSome = ((getF a n).isSome || decide (n ∈ l.map (·.1))) := by
  induction l with
  | nil => intro a _; simp
  | cons x l ih =>
    intro a h
    rw [List.foldl_cons, ih _ (srt_putF h _ _), getF_put h, List.map_cons]
    by_cases e : n = x.1
    · rw [if_pos e, decide_eq_true (p := n ∈ x.1 :: l.map (·.1)) (by rw [e]; exact List.mem_cons_self)]; simp
    · rw [if_neg e]
      have : (n ∈ x.1 :: l.map (·.1)) ↔ n ∈ l.map (·.1) := ⟨fun hm => (List.mem_cons.1 hm).elim (fun h => absurd h e) id, fun h => List.mem_cons_of_mem _ h⟩
      rw [decide_eq_decide.2 this]
theorem has_putAll (l : List Fld) (n : ByteArray) : (getF (putAll l) n).isSome = decide (n ∈ l.map (·.1)) := by
  unfold putAll; rw [has_foldl l n [] List.Pairwise.nil, getF_nil]; rfl
/-- THE PLAIN LAW: from the end, each with its last text: the same fields. -/
theorem putBack_all (l : List Fld) : putBack (putAll l) l = putAll l := by
  refine Srt.ext (srt_putBack _ _) (srt_putAll l) fun n => ?_
  rw [getF_putBack]
  have h := has_putAll l n
  by_cases hn : n ∈ l.map (·.1)
  · rw [if_pos hn]
    cases hg : getF (putAll l) n with
    | none => rw [hg] at h; simp [hn] at h
    | some x => rfl
  · rw [if_neg hn]
    cases hg : getF (putAll l) n with
    | none => rfl
    | some x => rw [hg] at h; simp [hn] at h
theorem fine_putF {fs : List Fld} (hs : Srt fs) (h : ∀ f ∈ fs, fineF f) {name text : ByteArray} (hf : fineF (name, text)) : ∀ f ∈ putF fs name text, fineF f := fun f hm => by
  rcases (mem_putF hs name text f).1 hm with rfl | ⟨h1, _⟩
  · exact hf
  · exact h f h1
theorem fine_foldl (l : List Fld) (hl : ∀ f ∈ l, fineF f) : ∀ a, Srt a → (∀ f ∈ a, fineF f) → ∀ f ∈ l.foldl (fun a f => putF a f.1 f.2) a, fineF f := by
  induction l with
  | nil => exact fun a _ h => h
  | cons x l ih => exact fun a hs h => ih (fun f hf => hl f (List.mem_cons_of_mem _ hf)) _ (srt_putF hs _ _) (fine_putF hs h (hl x List.mem_cons_self))
theorem fine_putAll {l : List Fld} (hl : ∀ f ∈ l, fineF f) : ∀ f ∈ putAll l, fineF f := fine_foldl l hl [] List.Pairwise.nil (fun f hf => by cases hf)
theorem fine_putBack {F : List Fld} (hF : Srt F) (h : ∀ f ∈ F, fineF f) {l : List Fld} (hl : ∀ f ∈ l, f.1.size ≤ 512) : ∀ f ∈ putBack F l, fineF f := by
  induction l with
  | nil => intro f hf; cases hf
  | cons x l ih =>
    refine fine_putF (srt_putBack F l) (ih fun f hf => hl f (List.mem_cons_of_mem _ hf)) ⟨hl x List.mem_cons_self, ?_⟩
    show ((getF F x.1).getD ⟨#[]⟩).size ≤ 4096
    cases hg : getF F x.1 with
    | none => decide
    | some t => exact (h _ ((getF_iff hF).1 hg)).2
theorem putBack_len (F l : List Fld) : (putBack F l).length ≤ l.length := by
  induction l with
  | nil => exact Nat.le_refl _
  | cons x l ih => have := put_le (srt_putBack F l) x.1 ((getF F x.1).getD ⟨#[]⟩); simp only [putBack, List.length_cons]; omega
theorem srt_names {fs : List Fld} (h : Srt fs) : (fs.map (·.1)).Nodup := by
  rw [List.Nodup, List.pairwise_map]
  refine h.imp fun {a b} h e => ?_
  rw [e] at h
  have := (cmpB_zero (a := b.1) (b := b.1)).2 rfl
  omega
theorem names_iff {fs : List Fld} (hs : Srt fs) (k : ByteArray) : (getF fs k).isSome = true ↔ k ∈ fs.map (·.1) := by
  constructor
  · intro h
    obtain ⟨t, ht⟩ := Option.isSome_iff_exists.1 h
    exact List.mem_map.2 ⟨(k, t), (getF_iff hs).1 ht, rfl⟩
  · intro h
    obtain ⟨⟨k', t⟩, hm, rfl⟩ := List.mem_map.1 h
    rw [(getF_iff hs).2 hm]; rfl
/-- A put into a map in the heap, seen as the fields. -/
theorem putF_map {fs : List Fld} (hs : Srt fs) (name text : ByteArray) : (fun k => if k = name then some (Value.string text) else (getF fs k).map Value.string) = fun k => (getF (putF fs name text) k).map Value.string := by
  funext k
  rw [getF_put hs]
  by_cases h : k = name <;> simp [h]

/-- What an item of fields has. -/
theorem fitI_flds {fs : List Fld} (h : fs = [] ∨ fs ≠ []) (hs : Srt fs) (hn : fs.length ≤ 256) : FitI (if fs = [] then 0 else 2) ⟨#[]⟩ fs.length fs := by
  by_cases e : fs = []
  · subst e; exact ⟨hs, hn, by decide, fun _ => rfl, fun _ _ _ => rfl, fun h => by simp at h, Or.inl rfl, fun _ => rfl⟩
  · rw [if_neg e]; exact ⟨hs, hn, by decide, fun _ => rfl, fun h => absurd h e, fun _ => e, Or.inr (Or.inr rfl), fun h => absurd rfl h⟩
theorem putF_ne {fs : List Fld} {name text : ByteArray} : putF fs name text ≠ [] := by unfold putF; simp
/-- .. a field that is fine is put. -/
theorem putS_in {k : Int} {t : ByteArray} {fs : List Fld} {name s : ByteArray} (hk : k ≠ 1) (h1 : name.size ≤ 512) (h2 : s.size ≤ 4096) (h3 : fs.length < 256) : putS k t fs name s = (2, ⟨#[]⟩, putF fs name s, !hasF fs name, 0) := by
  unfold putS
  rw [if_neg hk, if_neg (by omega)]
end Go.Proofs.YteoalcmhdoopnaaDoor
