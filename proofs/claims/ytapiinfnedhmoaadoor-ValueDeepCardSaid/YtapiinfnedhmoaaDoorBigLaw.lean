/- What a number of any length is, byte by byte. -/
import Derived.Test.YtapiinfnedhmoaaDoorForm
namespace Go.Proofs.YtapiinfnedhmoaaDoor
open Go.RowKit Go.Lib

def digB (x : UInt8) : Bool := decide (48 ≤ x.toNat ∧ x.toNat ≤ 57)
theorem dig_contains (x : UInt8) : digits10.contains x = digB x := by
  have : ∀ n : Nat, n < 256 → digits10.contains (UInt8.ofNat n) = digB (UInt8.ofNat n) := by decide +kernel
  have h := this x.toNat x.toNat_lt
  simpa using h
theorem dw_all {α : Type} (p : α → Bool) (l : List α) : (∀ x ∈ l.dropWhile p, p x = true) ↔ ∀ x ∈ l, p x = true := by
  induction l with
  | nil => simp
  | cons y l ih =>
    by_cases h : p y = true
    · rw [List.dropWhile_cons_of_pos h, ih]
      simp [h]
    · rw [List.dropWhile_cons_of_neg h]
theorem dw_nil {α : Type} (p : α → Bool) (l : List α) : l.dropWhile p = [] ↔ ∀ x ∈ l, p x = true := by
  induction l with
  | nil => simp
  | cons y l ih =>
    by_cases h : p y = true
    · rw [List.dropWhile_cons_of_pos h, ih]
      simp [h]
    · rw [List.dropWhile_cons_of_neg h]
      simp [h]
theorem trimS_nil (l : List UInt8) : (Lib.trimS l digits10).isEmpty = l.all digB := by
  rw [Bool.eq_iff_iff, List.isEmpty_iff, List.all_eq_true]
  unfold Lib.trimS Lib.trimLeftS Lib.trimRightS
  rw [dw_nil]
  constructor
  · intro h x hx
    have h2 : ∀ y ∈ l.reverse.dropWhile (digits10.contains ·), digits10.contains y = true := fun y hy => h y (by simpa using hy)
    have h3 := (dw_all _ _).1 h2 x (by simpa using hx)
    rw [← dig_contains]; exact h3
  · intro h x hx
    have h1 : x ∈ l := by
      have := (List.dropWhile_sublist (fun y => digits10.contains y) (l := l.reverse)).subset (by simpa using hx)
      simpa using this
    show digits10.contains x = true
    rw [dig_contains]; exact h x h1
/-- Where a number's digits begin. -/
def bigAt (t : ByteArray) : Nat := if t.data.toList.head? = some 45 then 1 else 0
theorem bigB_eq (t : ByteArray) : bigB t = (decide (bigAt t ≠ t.size) && (t.data.toList.drop (bigAt t)).all digB) := by
  have hp : Lib.trimPrefix t.data.toList [45] = t.data.toList.drop (bigAt t) := by
    unfold Lib.trimPrefix bigAt
    cases h : t.data.toList with
    | nil => simp [Lib.hasPrefix]
    | cons y l =>
      by_cases hy : y = 45
      · subst hy; simp [Lib.hasPrefix]
      · simp [Lib.hasPrefix, hy]
        intro h'; exact absurd h'.symm hy
  unfold bigB
  rw [hp, trimS_nil]
  congr 1
  rw [Bool.eq_iff_iff]
  have hl : t.data.toList.length = t.size := by simp
  have hle : bigAt t ≤ t.size := by
    unfold bigAt
    split
    · rename_i h
      cases hh : t.data.toList with
      | nil => rw [hh] at h; cases h
      | cons y l => rw [hh] at hl; simp at hl; omega
    · omega
  simp [List.drop_eq_nil_iff]
  omega
end Go.Proofs.YtapiinfnedhmoaaDoor
