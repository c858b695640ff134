/- What a kind has; a value's bits; what a value has that its kind has not. -/
import Derived.Test.YtagkgfniihiinaaGreatDoorVal
import Derived.Test.YtagkgfniihiinaaGreatDoorV

namespace Go.Proofs.YtagkgfniihiinaaGreatDoor
open Go.RowKit

def textK (k : Int) : Bool := decide (k = 1 ∨ k = 2 ∨ k = 4 ∨ k = 9 ∨ k = 10 ∨ k = 11)
def numK (k : Int) : Bool := decide (k = 3)
def realK (k : Int) : Bool := decide (k = 7)
def flagK (k : Int) : Bool := decide (k = 8)
def listK (k : Int) : Bool := decide (k = 5 ∨ k = 12 ∨ k = 13 ∨ k = 14)
def knownK (k : Int) : Bool := decide (1 ≤ k ∧ k ≤ 14)

set_option maxHeartbeats 1600000 in
theorem has_any (k : Int) (w : World) : Calls Tryz.prog 105 #[.int .i64 k] w fun e w' =>
    e = .returned (.tuple #[.agg #[.bool (textK k), .bool (numK k), .bool (realK k), .bool (flagK k), .bool (listK k)], .bool (knownK k)]) ∧ Below w.heap.size w w' := by
  rcases (by omega : k = 1 ∨ k = 2 ∨ k = 3 ∨ k = 4 ∨ k = 5 ∨ k = 6 ∨ k = 7 ∨ k = 8 ∨ k = 9 ∨ k = 10 ∨ k = 11 ∨ k = 12 ∨ k = 13 ∨ k = 14 ∨ (k < 1 ∨ 14 < k)) with rfl | rfl | rfl | rfl | rfl | rfl | rfl | rfl | rfl | rfl | rfl | rfl | rfl | rfl | h
  all_goals
    have e1 := Below.alloc (Below.refl w.heap.size w) (Nat.le_refl _)
    replace e1 := Lib.hid e1
  iterate 14
    · go_enter Tryz.func105, Tryz.ntmps105
      go_wp2
      exact bodyPost_ret (v := .tuple #[.agg #[.bool (textK _), .bool (numK _), .bool (realK _), .bool (flagK _), .bool (listK _)], .bool (knownK _)]) (by simp [results, Tryz.results105, go_sem, textK, numK, realK, flagK, listK, knownK]) rfl ⟨rfl, e1.out _⟩
  · have h1 : (k == 1) = false := by simp; omega
    have h2 : (k == 2) = false := by simp; omega
    have h3 : (k == 3) = false := by simp; omega
    have h4 : (k == 4) = false := by simp; omega
    have h5 : (k == 5) = false := by simp; omega
    have h6 : (k == 6) = false := by simp; omega
    have h7 : (k == 7) = false := by simp; omega
    have h8 : (k == 8) = false := by simp; omega
    have h9 : (k == 9) = false := by simp; omega
    have h10 : (k == 10) = false := by simp; omega
    have h11 : (k == 11) = false := by simp; omega
    have h12 : (k == 12) = false := by simp; omega
    have h13 : (k == 13) = false := by simp; omega
    have h14 : (k == 14) = false := by simp; omega
    have q1 : textK k = false := by simp [textK]; omega
    have q2 : numK k = false := by simp [numK]; omega
    have q3 : realK k = false := by simp [realK]; omega
    have q4 : flagK k = false := by simp [flagK]; omega
    have q5 : listK k = false := by simp [listK]; omega
    have q6 : knownK k = false := by simp [knownK]; omega
    rw [q1, q2, q3, q4, q5, q6]
    clear q1 q2 q3 q4 q5 q6 h
    go_enter Tryz.func105, Tryz.ntmps105
    go_wp2
    exact bodyPost_ret (v := .tuple #[.agg #[.bool false, .bool false, .bool false, .bool false, .bool false], .bool false]) (by simp [results, Tryz.results105, go_sem]) rfl ⟨rfl, e1.out _⟩

theorem realBits_any (r : Nat) (w : World) : Calls Tryz.prog 130 #[.float .f64 r] w fun e w' => e = .returned (.int .u64 (bitsN r)) ∧ w' = w := by
  have hf := f64bits_run r
  have isn : Calls Tryz.prog 76 #[.float .f64 r] w fun e w' => e = .returned (.bool (FloatKind.f64.format.order r r != some .eq)) ∧ w' = w := by
    clear hf
    go_enter Tryz.func76, Tryz.ntmps76
    go_wp2
    go_ret
    exact ⟨rfl, rfl⟩
  by_cases hn : nanB r = true
  · have e1 : (FloatKind.f64.format.order r r != some .eq) = true := hn
    have e2 : bitsN r = 9221120237041090561 := by simp [bitsN, hn]
    rw [e2]
    rw [e1] at isn
    clear hn e2 e1
    go_enter Tryz.func130, Tryz.ntmps130
    go_wp2_with fail
    refine isn.mono ?_
    rintro e w' ⟨rfl, rfl⟩
    go_wp2
    go_ret
    exact ⟨rfl, rfl⟩
  · have e1 : (FloatKind.f64.format.order r r != some .eq) = false := by simpa [nanB] using hn
    have e2 : bitsN r = r := by simp [bitsN, hn]
    rw [e2]
    rw [e1] at isn
    clear hn e2 e1
    go_enter Tryz.func130, Tryz.ntmps130
    go_wp2_with fail
    refine isn.mono ?_
    rintro e w' ⟨rfl, rfl⟩
    go_wp2
    go_ret
    exact ⟨rfl, rfl⟩
end Go.Proofs.YtagkgfniihiinaaGreatDoor

/- Has a value nothing but what its kind has? -/

namespace Go.Proofs.YtagkgfniihiinaaGreatDoor
open Go.RowKit

theorem classK (k : Int) : (textK k, numK k, realK k, flagK k, listK k) = (true, false, false, false, false) ∨ (textK k, numK k, realK k, flagK k, listK k) = (false, true, false, false, false) ∨ (textK k, numK k, realK k, flagK k, listK k) = (false, false, true, false, false) ∨
    (textK k, numK k, realK k, flagK k, listK k) = (false, false, false, true, false) ∨ (textK k, numK k, realK k, flagK k, listK k) = (false, false, false, false, true) ∨ (textK k, numK k, realK k, flagK k, listK k) = (false, false, false, false, false) := by
  simp only [Prod.mk.injEq, textK, numK, realK, flagK, listK, decide_eq_true_eq, decide_eq_false_iff_not]
  omega
def emptyS (s : ByteArray) : Bool := s.toList.isEmpty
def nothingB (t n r f l : Bool) (v : V) : Bool := (t || emptyS v.text) && (n || decide (v.int = 0)) && (r || decide (bitsN v.real = 0)) && (f || !v.flag) && (l || decide (v.list.length = 0))
def nothingV (v : V) : Bool := nothingB (textK v.kind) (numK v.kind) (realK v.kind) (flagK v.kind) (listK v.kind) v

set_option maxHeartbeats 3200000 in
theorem nothing_any (v : V) (a : Option Addr) (cap : Nat) (w : World) :
    Calls Tryz.prog 106 #[.agg #[.int .i64 v.kind, .string v.text, .int .i64 v.int, .float .f64 v.real, .bool v.flag, .slice a v.list.length cap], .agg #[.bool (textK v.kind), .bool (numK v.kind), .bool (realK v.kind), .bool (flagK v.kind), .bool (listK v.kind)]] w fun e w' =>
      e = .returned (.bool (nothingV v)) ∧ Below w.heap.size w w' := by
  have hb := fun (o p : Obj) => ((Below.refl w.heap.size w).alloc (Nat.le_refl _) o).alloc (by simp) p
  have hrb := fun (W : World) => realBits_any v.real W
  replace hb := Lib.hid hb
  unfold nothingV
  generalize hn : v.list.length = n
  replace hn := Lib.hid hn
  rcases classK v.kind with h | h | h | h | h | h
  all_goals
    simp only [Prod.mk.injEq] at h
    obtain ⟨h1, h2, h3, h4, h5⟩ := h
    rw [h1, h2, h3, h4, h5]
    clear h1 h2 h3 h4 h5
  all_goals
    go_enter Tryz.func106, Tryz.ntmps106
    go_wp2_with (go_at_call 130; refine (hrb _).mono ?_; rintro e w' ⟨rfl, rfl⟩)
    all_goals
      go_ret
      refine ⟨congrArg (fun b => Ending.returned (.bool b)) ?_, hb.out _ _⟩
      simp [nothingB, emptyS, hn.out, *]
      try (by_cases hz : n = 0 <;> simp [hz])
end Go.Proofs.YtagkgfniihiinaaGreatDoor

/- Values whose numbers are within their words (no program in sight). -/
namespace Go.Proofs.YtagkgfniihiinaaGreatDoor

mutual
/-- Each number in it is within its word. -/
def V.ranged : V → Prop
  | .mk _ _ i r _ l => -9223372036854775808 ≤ i ∧ i ≤ 9223372036854775807 ∧ r < 18446744073709551616 ∧ V.rangedL l
def V.rangedL : List V → Prop
  | [] => True
  | x :: l => V.ranged x ∧ V.rangedL l
end
theorem V.ranged_eq (v : V) : v.ranged ↔ -9223372036854775808 ≤ v.int ∧ v.int ≤ 9223372036854775807 ∧ v.real < 18446744073709551616 ∧ V.rangedL v.list := by cases v; simp only [V.ranged, V.int, V.real, V.list]
theorem V.rangedL_mem {l : List V} (h : V.rangedL l) : ∀ x ∈ l, x.ranged := by
  induction l with
  | nil => intro x hx; cases hx
  | cons y l ih =>
    intro x hx
    rcases List.mem_cons.1 hx with rfl | hx
    · exact h.1
    · exact ih h.2 x hx
theorem rangedL_of {l : List V} (h : ∀ x ∈ l, x.ranged) : V.rangedL l := by
  induction l with
  | nil => trivial
  | cons y l ih => exact ⟨h y (by simp), ih fun x hx => h x (by simp [hx])⟩
end Go.Proofs.YtagkgfniihiinaaGreatDoor
