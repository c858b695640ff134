/- A region that draws its order, and whose last operation waits for all others: that one is walked last. No program in sight. -/
import Derived.WalkKit
import Derived.Orders
import Derived.Deep.RegionHeld3
namespace Go.Proofs.YtagkgfniihiinaaGreatDoor
open Go
def backB (ops : Array Oper) : Bool := (List.range ops.size).all fun i => match ops[i]? with
 | some o => o.after.all (fun e => decide (e.on < i)) && (match o.guard with | some (g, _) => decide (g < i) | none => true)
 | none => true
theorem Ex : ∀ (l : List Bool) (i : Nat), l[i]? = some false -> (l.set i true).count false + 1 = l.count false
 | [], i, h => by simp at h
 | b :: l, 0, h => by simp at h; subst h; simp
 | b :: l, i + 1, h => by
   simp only [List.getElem?_cons_succ] at h
   have := Ex l i h
   cases b <;> simp <;> omega
theorem back_at {ops : Array Oper} (h : backB ops = true) {i : Nat} {o : Oper} (ho : ops[i]? = some o) : (∀ e ∈ o.after, e.on < i) /\ ∀ g b, o.guard = some (g, b) -> g < i := by
 have hi := (Array.getElem?_eq_some_iff.1 ho).1
 have h1 := List.all_eq_true.1 h i (List.mem_range.2 hi)
 simp only [ho, Bool.and_eq_true] at h1
 refine ⟨fun e he => ?_, fun g b hg => ?_⟩
 · have := Array.all_eq_true'.1 h1.1 e he
   simpa using this
 · have := h1.2
   rw [hg] at this
   simpa using this
theorem ready_some {ops : Array Oper} {listed : Array Bool} (hs : listed.size = ops.size) (hb : backB ops = true) : ∀ (j : Nat), j < ops.size -> listed.getD j true = false -> Region.ready .any ops listed ≠ [] := by
 intro j
 induction j using Nat.strongRecOn with
 | ind j ih =>
 intro hj hun
 obtain ⟨o, ho⟩ : ∃ o, ops[j]? = some o := ⟨ops[j], by simp [hj]⟩
 by_cases hall : o.after.all (fun e => !Region.binds .any e || listed.getD e.on false) = true
 · intro h0
   have : j ∈ Region.ready .any ops listed := by
     unfold Region.ready
     rw [List.mem_filter]
     refine ⟨List.mem_range.2 hj, ?_⟩
     rw [hun, ho]
     simpa using hall
   rw [h0] at this
   cases this
 · rw [Bool.not_eq_true, Array.all_eq_false'] at hall
   obtain ⟨e, he, h1⟩ := hall
   have hlt := (back_at hb ho).1 e he
   have h2 : listed.getD e.on false = false := by
     cases h : listed.getD e.on false with
     | false => rfl
     | true => rw [h] at h1; simp at h1
   refine ih e.on hlt (by omega) ?_
   have hlt' : e.on < listed.size := by omega
   simp [hlt'] at h2 ⊢; exact h2
end Go.Proofs.YtagkgfniihiinaaGreatDoor
