/- What a kind has; a value's bits; what a value has that its kind has not. -/
import Derived.Test.YtagkgfniihiinaaGreatDoorVal
namespace Go.Proofs.YtagkgfniihiinaaGreatDoor
open Go.RowKit

def textK (k : Int) : Bool := decide (k = 1 ∨ k = 2 ∨ k = 4 ∨ k = 9 ∨ k = 10 ∨ k = 11)
def numK (k : Int) : Bool := decide (k = 3)
def realK (k : Int) : Bool := decide (k = 7)
def flagK (k : Int) : Bool := decide (k = 8)
def listK (k : Int) : Bool := decide (k = 5 ∨ k = 12 ∨ k = 13 ∨ k = 14)
def knownK (k : Int) : Bool := decide (1 ≤ k ∧ k ≤ 14)

set_option maxHeartbeats 1600000 in
theorem has_any (k : Int) (w : World) : Calls Tryz.prog 105 #[.int .i64 k] w fun e w' =>
    e = .returned (.tuple #[.agg #[.bool (textK k), .bool (numK k), .bool (realK k), .bool (flagK k), .bool (listK k)], .bool (knownK k)]) ∧ Below w.heap.size w w' := by
  rcases (by omega : k = 1 ∨ k = 2 ∨ k = 3 ∨ k = 4 ∨ k = 5 ∨ k = 6 ∨ k = 7 ∨ k = 8 ∨ k = 9 ∨ k = 10 ∨ k = 11 ∨ k = 12 ∨ k = 13 ∨ k = 14 ∨ (k < 1 ∨ 14 < k)) with rfl | rfl | rfl | rfl | rfl | rfl | rfl | rfl | rfl | rfl | rfl | rfl | rfl | rfl | h
  all_goals
    have e1 := Below.alloc (Below.refl w.heap.size w) (Nat.le_refl _)
    replace e1 := Lib.hid e1
  iterate 14
    · go_enter Tryz.func105, Tryz.ntmps105
      go_wp2
      exact bodyPost_ret (v := .tuple #[.agg #[.bool (textK _), .bool (numK _), .bool (realK _), .bool (flagK _), .bool (listK _)], .bool (knownK _)]) (by simp [results, Tryz.results105, go_sem, textK, numK, realK, flagK, listK, knownK]) rfl ⟨rfl, e1.out _⟩
  · have h1 : (k == 1) = false := by simp; omega
    have h2 : (k == 2) = false := by simp; omega
    have h3 : (k == 3) = false := by simp; omega
    have h4 : (k == 4) = false := by simp; omega
    have h5 : (k == 5) = false := by simp; omega
    have h6 : (k == 6) = false := by simp; omega
    have h7 : (k == 7) = false := by simp; omega
    have h8 : (k == 8) = false := by simp; omega
    have h9 : (k == 9) = false := by simp; omega
    have h10 : (k == 10) = false := by simp; omega
    have h11 : (k == 11) = false := by simp; omega
    have h12 : (k == 12) = false := by simp; omega
    have h13 : (k == 13) = false := by simp; omega
    have h14 : (k == 14) = false := by simp; omega
    have q1 : textK k = false := by simp [textK]; omega
    have q2 : numK k = false := by simp [numK]; omega
    have q3 : realK k = false := by simp [realK]; omega
    have q4 : flagK k = false := by simp [flagK]; omega
    have q5 : listK k = false := by simp [listK]; omega
    have q6 : knownK k = false := by simp [knownK]; omega
    rw [q1, q2, q3, q4, q5, q6]
    clear q1 q2 q3 q4 q5 q6 h
    go_enter Tryz.func105, Tryz.ntmps105
    go_wp2
    exact bodyPost_ret (v := .tuple #[.agg #[.bool false, .bool false, .bool false, .bool false, .bool false], .bool false]) (by simp [results, Tryz.results105, go_sem]) rfl ⟨rfl, e1.out _⟩

theorem realBits_any (r : Nat) (w : World) : Calls Tryz.prog 130 #[.float .f64 r] w fun e w' => e = .returned (.int .u64 (bitsN r)) ∧ w' = w := by
  have hf := f64bits_run r
  have isn : Calls Tryz.prog 76 #[.float .f64 r] w fun e w' => e = .returned (.bool (FloatKind.f64.format.order r r != some .eq)) ∧ w' = w := by
    clear hf
    go_enter Tryz.func76, Tryz.ntmps76
    go_wp2
    go_ret
    exact ⟨rfl, rfl⟩
  by_cases hn : nanB r = true
  · have e1 : (FloatKind.f64.format.order r r != some .eq) = true := hn
    have e2 : bitsN r = 9221120237041090561 := by simp [bitsN, hn]
    rw [e2]
    rw [e1] at isn
    clear hn e2 e1
    go_enter Tryz.func130, Tryz.ntmps130
    go_wp2_with fail
    refine isn.mono ?_
    rintro e w' ⟨rfl, rfl⟩
    go_wp2
    go_ret
    exact ⟨rfl, rfl⟩
  · have e1 : (FloatKind.f64.format.order r r != some .eq) = false := by simpa [nanB] using hn
    have e2 : bitsN r = r := by simp [bitsN, hn]
    rw [e2]
    rw [e1] at isn
    clear hn e2 e1
    go_enter Tryz.func130, Tryz.ntmps130
    go_wp2_with fail
    refine isn.mono ?_
    rintro e w' ⟨rfl, rfl⟩
    go_wp2
    go_ret
    exact ⟨rfl, rfl⟩
end Go.Proofs.YtagkgfniihiinaaGreatDoor
