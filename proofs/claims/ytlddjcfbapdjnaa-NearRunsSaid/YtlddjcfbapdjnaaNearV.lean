/- The layer near: what is kept, and what each call makes of it. -/
import Derived.Test.YtlddjcfbapdjnaaVal
import Derived.Test.YtlddjcfbapdjnaaRecentC
import Derived.Test.YtlddjcfbapdjnaaLaw10
namespace Go.Proofs.Ytlddjcfbapdjnaa
open Go.RowKit

/-- What is kept near: values by keys, the one used longest ago first; tickets; the last number; the capacity. -/
structure NS where
  es : List (ByteArray × V)
  ts : List (Int × ByteArray)
  last : Int
  most : Int
def NS.keys (s : NS) : List ByteArray := s.es.map (·.1)
def V.zero : V := .mk 0 ⟨#[]⟩ 0 0 false []
def lookE (es : List (ByteArray × V)) (k : ByteArray) : Option V := (es.find? (fun p => p.1 = k)).map (·.2)
def NS.get (s : NS) (k : ByteArray) : NS := match lookE s.es k with
  | none => s
  | some v => { s with es := s.es.filter (fun p => p.1 ≠ k) ++ [(k, v)] }
def NS.begin (s : NS) (k : ByteArray) : NS := { s with last := s.last + 1, ts := s.ts ++ [(s.last + 1, k)] }
def lookT (ts : List (Int × ByteArray)) (t : Int) : Option ByteArray := (ts.find? (fun p => p.1 = t)).map (·.2)
def NS.without (s : NS) (t : Int) : NS := { s with ts := s.ts.filter (fun p => p.1 ≠ t) }
def putE (es : List (ByteArray × V)) (k : ByteArray) (v : V) : List (ByteArray × V) := es.filter (fun p => p.1 ≠ k) ++ [(k, v)]
def NS.put (s : NS) (k : ByteArray) (v : V) : NS := { s with es := if s.most < (putE s.es k v).length then (putE s.es k v).tail else putE s.es k v }
def NS.fills (s : NS) (t : Int) : Bool := (lookT s.ts t).isSome && decide (s.most ≠ 0)
def NS.fill (s : NS) (t : Int) (v : V) : NS := match lookT s.ts t with
  | none => s.without t
  | some k => if s.most = 0 then s.without t else (s.without t).put k v
def NS.drop (s : NS) (k : ByteArray) : NS := { s with ts := s.ts.filter (fun p => p.2 ≠ k), es := s.es.filter (fun p => p.1 ≠ k) }
def NS.clear (s : NS) : NS := { s with ts := [], es := [] }

theorem keys_filter (es : List (ByteArray × V)) (k : ByteArray) : (es.filter (fun p => p.1 ≠ k)).map (·.1) = (es.map (·.1)).filter (fun x => x ≠ k) := by
  rw [List.filter_map]; rfl
theorem keys_put (es : List (ByteArray × V)) (k : ByteArray) (v : V) : (putE es k v).map (·.1) = touch (es.map (·.1)) k := by
  rw [putE, List.map_append, keys_filter, touch]; rfl
theorem touch_perm {ks : List ByteArray} {k : ByteArray} (hn : ks.Nodup) (hk : k ∈ ks) : (touch ks k).Perm ks := by
  obtain ⟨a, b, rfl⟩ := List.append_of_mem hk
  rw [touch, touch_in hn, List.append_assoc]
  exact List.Perm.append_left _ (List.perm_append_singleton _ _)
theorem lookE_none {es : List (ByteArray × V)} {k : ByteArray} : lookE es k = none ↔ k ∉ es.map (·.1) := by
  simp [lookE]
  exact ⟨fun h x hx => h k x hx rfl, fun h a b hab e => h b (e ▸ hab)⟩
theorem lookE_mem {es : List (ByteArray × V)} {k : ByteArray} {v : V} (h : lookE es k = some v) : (k, v) ∈ es := by
  obtain ⟨p, h1, h2⟩ := Option.map_eq_some_iff.1 h
  have h3 := List.mem_of_find?_eq_some h1
  have h4 := List.find?_some h1
  simp at h4; subst h4; subst h2; exact h3
theorem lookT_none {ts : List (Int × ByteArray)} {t : Int} : lookT ts t = none ↔ t ∉ ts.map (·.1) := by
  simp [lookT]
  exact ⟨fun h x hx => h t x hx rfl, fun h a b hab e => h b (e ▸ hab)⟩
theorem lookT_mem {ts : List (Int × ByteArray)} {t : Int} {k : ByteArray} (h : lookT ts t = some k) : (t, k) ∈ ts := by
  obtain ⟨p, h1, h2⟩ := Option.map_eq_some_iff.1 h
  have h3 := List.mem_of_find?_eq_some h1
  have h4 := List.find?_some h1
  simp at h4; subst h4; subst h2; exact h3

section maps
variable {κ : Type} [DecidableEq κ]
theorem keys_set (l : List (κ × Value)) (k : κ) (v : Value) : (l.map (fun p => if p.1 = k then (k, v) else p)).map (·.1) = l.map (·.1) := by
  rw [List.map_map]
  have : ((fun p : κ × Value => p.1) ∘ fun p => if p.1 = k then (k, v) else p) = fun p => p.1 := by
    funext p; by_cases hp : p.1 = k <;> simp [hp]
  rw [this]
theorem alook_ains {l : List (κ × Value)} (hn : (l.map (·.1)).Nodup) (k : κ) (v : Value) (k' : κ) : alook (ains l k v) k' = if k' = k then some v else alook l k' := by
  have hd : ∀ (l : List (κ × Value)) (a : κ), a ≠ k → alook (l.map (fun p => if p.1 = k then (k, v) else p)) a = alook l a := by
    intro l a ha
    induction l with
    | nil => rfl
    | cons p l ih =>
      simp only [alook, List.map_cons, List.find?_cons] at ih ⊢
      by_cases hp : p.1 = k
      · simp only [hp, if_true]
        rw [show (decide (k = a)) = false by simp [Ne.symm ha]]
        exact ih
      · simp only [hp, if_false]
        by_cases hpa : p.1 = a
        · simp [hpa]
        · rw [show decide (p.1 = a) = false by simp [hpa]]; exact ih
  unfold ains
  split
  · rename_i hk
    by_cases he : k' = k
    · subst he
      rw [if_pos rfl]
      refine alook_of_mem (by rw [keys_set]; exact hn) ?_
      obtain ⟨p, hp, rfl⟩ := List.mem_map.1 hk
      exact List.mem_map.2 ⟨p, hp, by simp⟩
    · rw [if_neg he]; exact hd l k' he
  · rename_i hk
    by_cases he : k' = k
    · subst he
      rw [if_pos rfl]
      refine alook_of_mem (by rw [List.map_append, List.nodup_append]; exact ⟨hn, by simp, fun a ha b hb => by simp at hb; subst hb; exact fun e => hk (e ▸ ha)⟩) (by simp)
    · rw [if_neg he, alook, alook, List.find?_append]
      simp [show ¬ k = k' from fun e => he e.symm]
theorem alook_adel (l : List (κ × Value)) (k k' : κ) (h : k' ≠ k) : alook (adel l k) k' = alook l k' := by
  induction l with
  | nil => rfl
  | cons p l ih =>
    by_cases hp : p.1 = k
    · simp only [adel, List.filter_cons, hp, ne_eq, not_true, decide_false, Bool.false_eq_true, if_false, alook, List.find?_cons] at ih ⊢
      rw [show decide (k = k') = false by simp [Ne.symm h]]
      exact ih
    · simp only [adel, List.filter_cons, hp, ne_eq, not_false_iff, decide_true, if_true, alook, List.find?_cons] at ih ⊢
      by_cases hpa : p.1 = k'
      · simp [hpa]
      · rw [show decide (p.1 = k') = false by simp [hpa]]; exact ih
theorem keys_ains (l : List (κ × Value)) (k : κ) (v : Value) : (ains l k v).map (·.1) = if k ∈ l.map (·.1) then l.map (·.1) else l.map (·.1) ++ [k] := by
  unfold ains
  split
  · exact keys_set l k v
  · simp
theorem keys_adel (l : List (κ × Value)) (k : κ) : (adel l k).map (·.1) = (l.map (·.1)).filter (fun x => x ≠ k) := by
  rw [adel, List.filter_map]; rfl
end maps

/-- The map of values. -/
def Vals (w : World) (vb : Nat) (fp : List Nat) (es : List (ByteArray × V)) : Prop :=
  ∃ l, AMap strKey w vb l ∧ (l.map (·.1)).Perm (es.map (·.1)) ∧ ∀ p ∈ es, p.2.count ≤ 100000000 ∧ ∃ cs : List Value, alook l p.1 = some (.agg cs.toArray) ∧ RV (off fp w) cs p.2
theorem Vals.lt {w : World} {vb : Nat} {fp : List Nat} {es : List (ByteArray × V)} (h : Vals w vb fp es) : vb < w.heap.size := let ⟨_, h, _⟩ := h; h.lt
theorem Vals.nodup {w : World} {vb : Nat} {fp : List Nat} {es : List (ByteArray × V)} (h : Vals w vb fp es) : (es.map (·.1)).Nodup := let ⟨_, h1, h2, _⟩ := h; h2.nodup_iff.1 h1.nodup
theorem Vals.of_block {w w' : World} {vb : Nat} {fp fp' : List Nat} {es : List (ByteArray × V)} (h : Vals w vb fp es) (hb : w'.heap[vb]? = w.heap[vb]?) (hr : ∀ a u, off fp w a = some u → off fp' w' a = some u) : Vals w' vb fp' es :=
  let ⟨l, h1, h2, h3⟩ := h
  ⟨l, h1.of_block hb, h2, fun p hp => let ⟨hc, cs, h4, h5⟩ := h3 p hp; ⟨hc, cs, h4, h5.mono hr⟩⟩
theorem Vals.perm {w : World} {vb : Nat} {fp : List Nat} {es es' : List (ByteArray × V)} (h : Vals w vb fp es) (hp : es.Perm es') : Vals w vb fp es' :=
  let ⟨l, h1, h2, h3⟩ := h
  ⟨l, h1, h2.trans (hp.map _), fun p hm => h3 p (hp.mem_iff.2 hm)⟩
theorem Vals.look {w : World} {vb : Nat} {fp : List Nat} {es : List (ByteArray × V)} (h : Vals w vb fp es) (k : ByteArray) :
    ∃ cs : List Value, (Instr.lookup 82 (.map (some vb)) (.string k) true).run Try.prog w = .ok (.tuple #[.agg cs.toArray, .bool (lookE es k).isSome]) w ∧ RV (off fp w) cs ((lookE es k).getD V.zero) ∧ ((lookE es k).getD V.zero).count ≤ 100000000 := by
  have hz : ∀ W, (zeroValue 44).run Try.prog W = .ok (.agg (cells6 0 ⟨#[]⟩ 0 0 false none 0 0).toArray) W := fun W => by kernel_rfl
  obtain ⟨l, h1, h2, h3⟩ := h
  have hl := h1.lookup (P := Try.prog) Try.underlying82 Try.underlying9 hz k true
  simp only [if_true] at hl
  cases he : lookE es k with
  | none =>
    have hk : alook l k = none := alook_none.2 (fun hm => lookE_none.1 he (h2.mem_iff.1 hm))
    rw [hk] at hl
    exact ⟨_, hl, RV.leaf _ _ _ _ _ _ _ _, by simp [V.zero, V.count, V.countL]⟩
  | some v =>
    obtain ⟨hc, cs, h4, h5⟩ := h3 _ (lookE_mem he)
    simp only at h4
    rw [h4] at hl
    exact ⟨cs, hl, h5, hc⟩
theorem Vals.put {w : World} {vb : Nat} {fp : List Nat} {es : List (ByteArray × V)} (h : Vals w vb fp es) (k : ByteArray) (cs : List Value) :
    ∃ o, (Instr.mapUpdate 82 (.map (some vb)) (.string k) (.agg cs.toArray)).run Try.prog w = .ok () (setB w vb o) ∧ ∀ W fp' v, W.heap[vb]? = some o → (∀ a u, off fp w a = some u → off fp' W a = some u) → RV (off fp' W) cs v → v.count ≤ 100000000 → Vals W vb fp' (putE es k v) := by
  have hnd := h.nodup
  obtain ⟨l, h1, h2, h3⟩ := h
  obtain ⟨o, hr, ho⟩ := h1.update (P := Try.prog) Try.underlying82 Try.underlying9 k (.agg cs.toArray)
  refine ⟨o, hr, fun W fp' v hW hm hv hc => ⟨_, ho W hW, ?_, fun p hp => ?_⟩⟩
  · rw [keys_ains, keys_put]
    split
    · rename_i hk
      exact h2.trans (touch_perm hnd (h2.mem_iff.1 hk)).symm
    · rename_i hk
      rw [touch, touch_out (fun hm => hk (h2.mem_iff.2 hm))]
      exact h2.append_right _
  · rw [alook_ains h1.nodup]
    rcases List.mem_append.1 hp with hp | hp
    · obtain ⟨hp1, hp2⟩ := List.mem_filter.1 hp
      simp at hp2
      obtain ⟨hc', cs', h4, h5⟩ := h3 p hp1
      exact ⟨hc', cs', by rw [if_neg hp2]; exact h4, h5.mono hm⟩
    · simp at hp; subst hp
      exact ⟨hc, cs, by simp, hv⟩
theorem Vals.del {w : World} {vb : Nat} {fp : List Nat} {es : List (ByteArray × V)} (h : Vals w vb fp es) (k : ByteArray) :
    ∃ o, (∀ T, (Builtin.delete_ #[82, 9] T #[.map (some vb), .string k]).run Try.prog w = .ok (.tuple #[]) (setB w vb o)) ∧ ∀ W fp', W.heap[vb]? = some o → (∀ a u, off fp w a = some u → off fp' W a = some u) → Vals W vb fp' (es.filter (fun p => p.1 ≠ k)) := by
  obtain ⟨l, h1, h2, h3⟩ := h
  obtain ⟨o, hr, ho⟩ := h1.delete (P := Try.prog) Try.underlying82 Try.underlying9 k #[82, 9] 0 rfl
  refine ⟨o, fun T => hr, fun W fp' hW hm => ⟨_, ho W hW, ?_, fun p hp => ?_⟩⟩
  · rw [keys_adel, keys_filter]; exact h2.filter _
  · obtain ⟨hp1, hp2⟩ := List.mem_filter.1 hp
    simp at hp2
    obtain ⟨hc', cs', h4, h5⟩ := h3 p hp1
    exact ⟨hc', cs', by rw [alook_adel _ _ _ hp2]; exact h4, h5.mono hm⟩

/-- The map of tickets. -/
def Tix (w : World) (tb : Nat) (ts : List (Int × ByteArray)) : Prop := ∃ l, AMap intKey w tb l ∧ l.Perm (ts.map fun p => (p.1, Value.string p.2))
theorem Tix.lt {w : World} {tb : Nat} {ts : List (Int × ByteArray)} (h : Tix w tb ts) : tb < w.heap.size := let ⟨_, h, _⟩ := h; h.lt
theorem tkeys (ts : List (Int × ByteArray)) : (ts.map fun p => (p.1, Value.string p.2)).map (·.1) = ts.map (·.1) := by rw [List.map_map]; rfl
theorem Tix.nodup {w : World} {tb : Nat} {ts : List (Int × ByteArray)} (h : Tix w tb ts) : (ts.map (·.1)).Nodup := by
  obtain ⟨l, h1, h2⟩ := h
  rw [← tkeys]; exact (h2.map _).nodup_iff.1 h1.nodup
theorem Tix.of_block {w w' : World} {tb : Nat} {ts : List (Int × ByteArray)} (h : Tix w tb ts) (hb : w'.heap[tb]? = w.heap[tb]?) : Tix w' tb ts := let ⟨l, h1, h2⟩ := h; ⟨l, h1.of_block hb, h2⟩
theorem alook_tix (ts : List (Int × ByteArray)) (t : Int) : alook (ts.map fun p => (p.1, Value.string p.2)) t = (lookT ts t).map Value.string := by
  induction ts with
  | nil => rfl
  | cons p ts ih =>
    simp only [alook, lookT, List.map_cons, List.find?_cons] at ih ⊢
    by_cases hp : p.1 = t
    · simp [hp]
    · simp only [hp, decide_false]; exact ih
theorem Tix.look {w : World} {tb : Nat} {ts : List (Int × ByteArray)} (h : Tix w tb ts) (t : Int) :
    (Instr.lookup 56 (.map (some tb)) (.int .i64 t) true).run Try.prog w = .ok (.tuple #[.string ((lookT ts t).getD ⟨#[]⟩), .bool (lookT ts t).isSome]) w := by
  have hz : ∀ W, (zeroValue 9).run Try.prog W = .ok (.string ⟨#[]⟩) W := fun W => by kernel_rfl
  have hnd := h.nodup
  obtain ⟨l, h1, h2⟩ := h
  have hl := h1.lookup (P := Try.prog) Try.underlying56 Try.underlying3 hz t true
  simp only [if_true] at hl
  rw [alook_perm h2 h1.nodup, alook_tix] at hl
  cases he : lookT ts t <;> rw [he] at hl <;> exact hl
theorem Tix.put {w : World} {tb : Nat} {ts : List (Int × ByteArray)} (h : Tix w tb ts) (t : Int) (k : ByteArray) (ht : t ∉ ts.map (·.1)) :
    ∃ o, (Instr.mapUpdate 56 (.map (some tb)) (.int .i64 t) (.string k)).run Try.prog w = .ok () (setB w tb o) ∧ ∀ W, W.heap[tb]? = some o → Tix W tb (ts ++ [(t, k)]) := by
  obtain ⟨l, h1, h2⟩ := h
  obtain ⟨o, hr, ho⟩ := h1.update (P := Try.prog) Try.underlying56 Try.underlying3 t (.string k)
  refine ⟨o, hr, fun W hW => ⟨_, ho W hW, ?_⟩⟩
  rw [ains, if_neg (fun hm => ht (by rw [← tkeys]; exact (h2.map _).mem_iff.1 hm)), List.map_append]
  exact h2.append_right _
theorem Tix.del {w : World} {tb : Nat} {ts : List (Int × ByteArray)} (h : Tix w tb ts) (t : Int) :
    ∃ o, (∀ T, (Builtin.delete_ #[56, 3] T #[.map (some tb), .int .i64 t]).run Try.prog w = .ok (.tuple #[]) (setB w tb o)) ∧ ∀ W, W.heap[tb]? = some o → Tix W tb (ts.filter (fun p => p.1 ≠ t)) := by
  obtain ⟨l, h1, h2⟩ := h
  obtain ⟨o, hr, ho⟩ := h1.delete (P := Try.prog) Try.underlying56 Try.underlying3 t #[56, 3] 0 rfl
  refine ⟨o, fun T => hr, fun W hW => ⟨_, ho W hW, ?_⟩⟩
  have : adel (ts.map fun p => (p.1, Value.string p.2)) t = (ts.filter (fun p => p.1 ≠ t)).map fun p => (p.1, Value.string p.2) := by rw [adel, List.filter_map]; rfl
  rw [← this]
  exact h2.filter _

/-- A map, cleared. -/
theorem clear_map {κ : Type} [DecidableEq κ] {K : KeyEmb κ} {P : Program} {w : World} {m : Nat} {l : List (κ × Value)} (h : AMap K w m l) {t kt e : TypeId} (ht : P.underlying t = some (.map kt e)) (T : TypeId) :
    ∃ o, (Builtin.clear_ #[t] T #[.map (some m)]).run P w = .ok (.tuple #[]) (setB w m o) ∧ ∀ W, W.heap[m]? = some o → AMap K W m [] := by
  obtain ⟨es, clock, hm, hes, hb, hlt⟩ := h.held
  have hu := run_underlying ht w
  have hg := MapKept.run_getObj_map (P := P) hm
  have hset := fun o => MapKept.run_setObj_map (P := P) o hm
  refine ⟨.map #[] clock, ?_, fun W hW => ⟨by simp, #[], clock, hW, rfl, by simp, by simp⟩⟩
  simp [Builtin.clear_, hu, hg, hset, setB]
end Go.Proofs.Ytlddjcfbapdjnaa
