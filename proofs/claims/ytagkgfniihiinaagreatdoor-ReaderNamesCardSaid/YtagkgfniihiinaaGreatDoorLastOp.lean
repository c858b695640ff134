/- A region that draws its order, and whose last operation waits for all others: that one is walked last. No program in sight. -/
import Derived.WalkKit
import Derived.Orders
import Derived.Deep.RegionHeld3
namespace Go.Proofs.YtagkgfniihiinaaGreatDoor
open Go

/-- Behind the others: the last one. -/
def lastQ (P : Program) (ops : Array Oper) (last : Oper) (Q : Exit → Act → World → Prop) : Exit → Act → World → Prop
  | .normal, a, w => wpList P ops Q [last] a w
  | e, a, w => Q e a w
theorem lastQ_out {P : Program} {ops : Array Oper} {last : Oper} {Q : Exit → Act → World → Prop} (h : LetsOut (lastQ P ops last Q)) : LetsOut Q := h
theorem wp_congrQ {P : Program} {o : Oper} {a : Act} {w : World} {K K' : Act → World → Prop} {Q Q' : Exit → Act → World → Prop} (hk : ∀ a w, K a w → K' a w) (hp : ∀ c a w, Q (.panic c) a w → Q' (.panic c) a w) (ho : LetsOut Q → LetsOut Q')
    (h : o.wp P a w K Q) : o.wp P a w K' Q' := by
  unfold Oper.wp at *
  generalize (execOp a.eval o).run P w = r at *
  cases r with
  | ok n w' =>
    cases n <;> simp only [Oper.upon] at h ⊢
    case value u => exact hk _ _ h
    case skip => exact hk _ _ h
    case defer d => exact hk _ _ h
    case enter f args =>
      refine Calls.mono h fun e w'' he => ?_
      cases e with
      | returned u => exact hk _ _ he
      | panicked c => exact hp _ _ _ he
      | outgrown => exact ho he
    case row row args => exact Rows.mono h fun u w'' he => hk _ _ he
  | halt x w' =>
    cases x <;> simp only [Oper.upon] at h ⊢
    case panic u => exact hp _ _ _ h

/-- Each operation's edges lead back; the last one's lead to all. -/
def backB (ops : Array Oper) : Bool := (List.range ops.size).all fun i => match ops[i]? with
  | some o => o.after.all (fun e => decide (e.on < i)) && (match o.guard with | some (g, _) => decide (g < i) | none => true)
  | none => true
def allB (n : Nat) (last : Oper) : Bool := last.after.all (fun e => decide (e.on < n)) && (List.range n).all fun j => last.after.any fun e => decide (e.on = j) && Region.binds .any e

theorem count_set : ∀ (l : List Bool) (i : Nat), l[i]? = some false → (l.set i true).count false + 1 = l.count false
  | [], i, h => by simp at h
  | b :: l, 0, h => by simp at h; subst h; simp
  | b :: l, i + 1, h => by
    simp only [List.getElem?_cons_succ] at h
    have := count_set l i h
    cases b <;> simp <;> omega
theorem getD_push {l : Array Bool} {b d : Bool} {i : Nat} (h : i < l.size) : (l.push b).getD i d = l.getD i d := by
  simp [Array.getElem?_push, show i ≠ l.size by omega]
theorem back_at {ops : Array Oper} (h : backB ops = true) {i : Nat} {o : Oper} (ho : ops[i]? = some o) : (∀ e ∈ o.after, e.on < i) ∧ ∀ g b, o.guard = some (g, b) → g < i := by
  have hi := (Array.getElem?_eq_some_iff.1 ho).1
  have h1 := List.all_eq_true.1 h i (List.mem_range.2 hi)
  simp only [ho, Bool.and_eq_true] at h1
  refine ⟨fun e he => ?_, fun g b hg => ?_⟩
  · have := Array.all_eq_true'.1 h1.1 e he
    simpa using this
  · have := h1.2
    rw [hg] at this
    simpa using this
theorem ready_same {ops : Array Oper} {last : Oper} {listed : Array Bool} (hs : listed.size = ops.size) (hb : backB ops = true) (hl : allB ops.size last = true) {j : Nat} (hj : j < ops.size) (hun : listed.getD j true = false) :
    Region.ready .any (ops.push last) (listed.push false) = Region.ready .any ops listed := by
  unfold Region.ready
  rw [Array.size_push, List.range_succ, List.filter_append]
  have h1 : (List.range ops.size).filter (fun i => !(listed.push false).getD i true && (((ops.push last)[i]?).map (·.after.all fun e => !Region.binds .any e || (listed.push false).getD e.on false)).getD false) =
      (List.range ops.size).filter (fun i => !listed.getD i true && ((ops[i]?).map (·.after.all fun e => !Region.binds .any e || listed.getD e.on false)).getD false) := by
    refine List.filter_congr fun i hi => ?_
    have hi := List.mem_range.1 hi
    rw [getD_push (by omega)]
    have e1 : (ops.push last)[i]? = ops[i]? := by simp [Array.getElem?_push, show i ≠ ops.size by omega]
    rw [e1]
    cases ho : ops[i]? with
    | none => rfl
    | some o =>
      have hbk := (back_at hb ho).1
      simp only [Option.map_some, Option.getD_some]
      congr 1
      rw [Bool.eq_iff_iff, Array.all_eq_true', Array.all_eq_true']
      refine forall_congr' fun e => forall_congr' fun he => ?_
      rw [getD_push (by have := hbk e he; omega)]
  rw [h1]
  have h2 : (List.filter (fun i => !(listed.push false).getD i true && (((ops.push last)[i]?).map (·.after.all fun e => !Region.binds .any e || (listed.push false).getD e.on false)).getD false) [ops.size]) = [] := by
    rw [List.filter_eq_nil_iff]
    intro i hi
    simp only [List.mem_singleton] at hi
    subst hi
    have e1 : (ops.push last)[ops.size]? = some last := by simp
    rw [e1]
    simp only [Option.map_some, Option.getD_some, Bool.and_eq_true, not_and]
    intro _ hall
    simp only [allB, Bool.and_eq_true] at hl
    have h3 := List.all_eq_true.1 hl.2 j (List.mem_range.2 hj)
    obtain ⟨e, he, h4⟩ := Array.any_eq_true'.1 h3
    simp only [Bool.and_eq_true, decide_eq_true_eq] at h4
    have h5 := Array.all_eq_true'.1 hall e he
    rw [h4.2, h4.1, getD_push (by omega)] at h5
    have h6 : listed.getD j false = false := by
      have hlt : j < listed.size := by omega
      simp [hlt] at hun ⊢; exact hun
    rw [h6] at h5
    cases h5
  rw [h2, List.append_nil]
theorem ready_last {ops : Array Oper} {last : Oper} {listed : Array Bool} (hs : listed.size = ops.size) (hl : allB ops.size last = true) (hall : ∀ j, j < ops.size → listed.getD j true = true) :
    Region.ready .any (ops.push last) (listed.push false) = [ops.size] := by
  unfold Region.ready
  rw [Array.size_push, List.range_succ, List.filter_append]
  have h1 : (List.range ops.size).filter (fun i => !(listed.push false).getD i true && (((ops.push last)[i]?).map (·.after.all fun e => !Region.binds .any e || (listed.push false).getD e.on false)).getD false) = [] := by
    rw [List.filter_eq_nil_iff]
    intro i hi
    have hi := List.mem_range.1 hi
    rw [getD_push (by omega), hall i hi]
    simp
  rw [h1, List.nil_append, List.filter_eq_self]
  intro i hi
  simp only [List.mem_singleton] at hi
  subst hi
  have e1 : (ops.push last)[ops.size]? = some last := by simp
  have e2 : (listed.push false).getD ops.size true = false := by rw [← hs]; simp
  rw [e1, e2]
  simp only [Option.map_some, Option.getD_some, Bool.not_false, Bool.true_and]
  simp only [allB, Bool.and_eq_true] at hl
  refine Array.all_eq_true'.2 fun e he => ?_
  have h3 : e.on < ops.size := by simpa using Array.all_eq_true'.1 hl.1 e he
  rw [getD_push (by omega)]
  have h6 : listed.getD e.on false = true := by
    have := hall e.on h3
    have hlt : e.on < listed.size := by omega
    simp [hlt] at this ⊢; exact this
  rw [h6]; simp
theorem ready_some {ops : Array Oper} {listed : Array Bool} (hs : listed.size = ops.size) (hb : backB ops = true) : ∀ (j : Nat), j < ops.size → listed.getD j true = false → Region.ready .any ops listed ≠ [] := by
  intro j
  induction j using Nat.strongRecOn with
  | ind j ih =>
  intro hj hun
  obtain ⟨o, ho⟩ : ∃ o, ops[j]? = some o := ⟨ops[j], by simp [hj]⟩
  by_cases hall : o.after.all (fun e => !Region.binds .any e || listed.getD e.on false) = true
  · intro h0
    have : j ∈ Region.ready .any ops listed := by
      unfold Region.ready
      rw [List.mem_filter]
      refine ⟨List.mem_range.2 hj, ?_⟩
      rw [hun, ho]
      simpa using hall
    rw [h0] at this
    cases this
  · rw [Bool.not_eq_true, Array.all_eq_false'] at hall
    obtain ⟨e, he, h1⟩ := hall
    have hlt := (back_at hb ho).1 e he
    have h2 : listed.getD e.on false = false := by
      cases h : listed.getD e.on false with
      | false => rfl
      | true => rw [h] at h1; simp at h1
    refine ih e.on hlt (by omega) ?_
    have hlt' : e.on < listed.size := by omega
    simp [hlt'] at h2 ⊢; exact h2
theorem wpAny_last {P : Program} {ops : Array Oper} {last : Oper} {Q : Exit → Act → World → Prop} (hb : backB ops = true) (hl : allB ops.size last = true) : ∀ (fuel : Nat) (listed : Array Bool) (a : Act) (w : World), listed.size = ops.size → listed.toList.count false = fuel →
    wpAny P .any ops (lastQ P (ops.push last) last Q) fuel listed a w → wpAny P .any (ops.push last) Q (fuel + 1) (listed.push false) a w := by
  intro fuel
  induction fuel with
  | zero =>
    intro listed a w hs hc h
    have hall : ∀ j, j < ops.size → listed.getD j true = true := fun j hj => by
      cases hh : listed.getD j true with
      | true => rfl
      | false =>
        have hlt : j < listed.size := by omega
        have : false ∈ listed.toList := by
          have e : listed[j] = false := by simpa [hlt] using hh
          rw [← e]; exact Array.getElem_mem_toList hlt
        have := List.count_pos_iff.2 this
        omega
    have hr := ready_last hs hl hall
    refine ⟨fun h0 => (by rw [hr] at h0; cases h0), fun i hi => ?_⟩
    rw [hr] at hi
    simp only [List.mem_singleton] at hi
    subst hi
    have hq : wpList P (ops.push last) Q [last] a w := h.2
    have hdone : ∀ a' w', Q .normal a' w' → wpAny P .any (ops.push last) Q 0 ((listed.push false).setIfInBounds ops.size true) a' w' := fun a' w' hq' => by
      refine ⟨?_, hq'⟩
      unfold Region.ready
      rw [List.filter_eq_nil_iff]
      intro i hi
      have hi := List.mem_range.1 hi
      rw [Array.size_push] at hi
      have : ((listed.push false).setIfInBounds ops.size true).getD i true = true := by
        by_cases he : i = ops.size
        · subst he; rw [← hs]; simp
        · have h1 := hall i (by omega)
          have hlt : i < listed.size := by omega
          simp [Array.getElem?_setIfInBounds, Array.getElem?_push, show ops.size ≠ i by omega, show i ≠ listed.size by omega, hlt] at h1 ⊢
          exact h1
      rw [this]; simp
    unfold wpOp
    rw [show (ops.push last)[ops.size]? = some last by simp]
    simp only [wpList] at hq
    dsimp only
    split
    · rename_i hw
      rw [if_pos hw] at hq
      exact hq.imp (Oper.wp_mono hdone) id
    · rename_i hw
      rw [if_neg hw] at hq
      exact hdone _ _ hq
  | succ fuel ih =>
    intro listed a w hs hc h
    obtain ⟨j, hj, hun⟩ : ∃ j, j < ops.size ∧ listed.getD j true = false := by
      have : false ∈ listed.toList := List.count_pos_iff.1 (by omega)
      obtain ⟨j, hj, he⟩ := List.getElem_of_mem this
      have hj' : j < listed.size := by simpa using hj
      exact ⟨j, by omega, by simp [hj']; simpa using he⟩
    have hr := ready_same hs hb hl hj hun
    have hne := ready_some hs hb j hj hun
    refine ⟨fun h0 => absurd (hr ▸ h0) hne, fun i hi => ?_⟩
    rw [hr] at hi
    have h1 := h.2 i hi
    have hmem := hi
    unfold Region.ready at hmem
    rw [List.mem_filter] at hmem
    have hin := List.mem_range.1 hmem.1
    have hli : listed.getD i true = false := by
      have := hmem.2
      simp only [Bool.and_eq_true, Bool.not_eq_true'] at this
      exact this.1
    have hlt : i < listed.size := by omega
    have hget : listed.toList[i]? = some false := by
      have e : listed[i] = false := by simpa [hlt] using hli
      simp [hlt, e]
    have hset : (listed.push false).setIfInBounds i true = (listed.setIfInBounds i true).push false := by
      apply Array.ext'
      simp [List.set_append, hlt]
    have hk : ∀ a' w', wpAny P .any ops (lastQ P (ops.push last) last Q) fuel (listed.setIfInBounds i true) a' w' → wpAny P .any (ops.push last) Q (fuel + 1) ((listed.push false).setIfInBounds i true) a' w' := fun a' w' h2 => by
      rw [hset]
      refine ih (listed.setIfInBounds i true) a' w' (by simpa using hs) ?_ h2
      have := count_set listed.toList i hget
      simp only [Array.toList_setIfInBounds]
      omega
    obtain ⟨o, ho⟩ : ∃ o, ops[i]? = some o := ⟨ops[i], by simp [hin]⟩
    have ho' : (ops.push last)[i]? = some o := by rw [Array.getElem?_push, if_neg (by omega)]; exact ho
    unfold wpOp at h1 ⊢
    rw [ho] at h1
    rw [ho']
    simp only at h1 ⊢
    have hy : Region.wanted o (yielded (ops.push last) a.tmps) = Region.wanted o (yielded ops a.tmps) := by
      unfold Region.wanted
      cases hg : o.guard with
      | none => rfl
      | some gb =>
        obtain ⟨g, b⟩ := gb
        have hgl := (back_at hb ho).2 g b hg
        have e : yielded (ops.push last) a.tmps g = yielded ops a.tmps g := by
          unfold yielded
          rw [Array.getElem?_push, if_neg (by omega)]
        simp only [e]
    rw [hy]
    split
    · rename_i hw
      rw [if_pos hw] at h1
      exact h1.imp (wp_congrQ hk (fun _ _ _ h => h) (lastQ_out (P := P) (ops := ops.push last) (last := last))) (fun h => ⟨h.1, lastQ_out (P := P) (ops := ops.push last) (last := last) h.2⟩)
    · rename_i hw
      rw [if_neg hw] at h1
      exact hk _ _ h1
/-- A region that draws, its last operation behind all others: the others first, in whatever order; then the last. -/
theorem wp_region_last {P : Program} {id : Nat} {ops : Array Oper} {last : Oper} {Q : Exit → Act → World → Prop} {a : Act} {w : World} (hm : P.follows .mixedOrders = true) (hb : backB ops = true) (hl : allB ops.size last = true)
    (h : wpAny P .any ops (lastQ P (ops.push last) last Q) ops.size (Array.replicate ops.size false) a { w with drawn := w.drawn + 1 }) : (Code.region id (ops.push last) true).wp P Q a w := by
  refine wp_region_any hm ?_
  rw [Array.size_push]
  have e : Array.replicate (ops.size + 1) false = (Array.replicate ops.size false).push false := by
    apply Array.ext'
    simp [List.replicate_succ']
  rw [e]
  exact wpAny_last hb hl ops.size _ a _ (by simp) (by simp) h
/-- The same, with what holds all along: S; behind the last operation it need not hold. -/
theorem wp_region_last_held {P : Program} {id : Nat} {ops opsL : Array Oper} {last : Oper} {S : World → Prop} {Q : Exit → Act → World → Prop} {a : Act} {w : World} (he : opsL = ops.push last) (hm : P.follows .mixedOrders = true) (hb : backB ops = true) (hl : allB ops.size last = true)
    (hS : S w.drew) (h : S w.drew → wpAnyH P .any ops (lastQ P opsL last Q) S ops.size (Array.replicate ops.size false) a w.drew) : (Code.region id opsL true).wp P Q a w := by
  subst he
  exact wp_region_last hm hb hl (wpAny_of_held _ _ _ _ (h hS))
end Go.Proofs.YtagkgfniihiinaaGreatDoor
