/- Has a value nothing but what its kind has? -/
import Derived.Test.YtagkgfniihiinaaGreatDoorHas
namespace Go.Proofs.YtagkgfniihiinaaGreatDoor
open Go.RowKit

theorem classK (k : Int) : (textK k, numK k, realK k, flagK k, listK k) = (true, false, false, false, false) ∨ (textK k, numK k, realK k, flagK k, listK k) = (false, true, false, false, false) ∨ (textK k, numK k, realK k, flagK k, listK k) = (false, false, true, false, false) ∨
    (textK k, numK k, realK k, flagK k, listK k) = (false, false, false, true, false) ∨ (textK k, numK k, realK k, flagK k, listK k) = (false, false, false, false, true) ∨ (textK k, numK k, realK k, flagK k, listK k) = (false, false, false, false, false) := by
  simp only [Prod.mk.injEq, textK, numK, realK, flagK, listK, decide_eq_true_eq, decide_eq_false_iff_not]
  omega
def emptyS (s : ByteArray) : Bool := s.toList.isEmpty
def nothingB (t n r f l : Bool) (v : V) : Bool := (t || emptyS v.text) && (n || decide (v.int = 0)) && (r || decide (bitsN v.real = 0)) && (f || !v.flag) && (l || decide (v.list.length = 0))
def nothingV (v : V) : Bool := nothingB (textK v.kind) (numK v.kind) (realK v.kind) (flagK v.kind) (listK v.kind) v

set_option maxHeartbeats 3200000 in
theorem nothing_any (v : V) (a : Option Addr) (cap : Nat) (w : World) :
    Calls Tryz.prog 106 #[.agg #[.int .i64 v.kind, .string v.text, .int .i64 v.int, .float .f64 v.real, .bool v.flag, .slice a v.list.length cap], .agg #[.bool (textK v.kind), .bool (numK v.kind), .bool (realK v.kind), .bool (flagK v.kind), .bool (listK v.kind)]] w fun e w' =>
      e = .returned (.bool (nothingV v)) ∧ Below w.heap.size w w' := by
  have hb := fun (o p : Obj) => ((Below.refl w.heap.size w).alloc (Nat.le_refl _) o).alloc (by simp) p
  have hrb := fun (W : World) => realBits_any v.real W
  replace hb := Lib.hid hb
  unfold nothingV
  generalize hn : v.list.length = n
  replace hn := Lib.hid hn
  rcases classK v.kind with h | h | h | h | h | h
  all_goals
    simp only [Prod.mk.injEq] at h
    obtain ⟨h1, h2, h3, h4, h5⟩ := h
    rw [h1, h2, h3, h4, h5]
    clear h1 h2 h3 h4 h5
  all_goals
    go_enter Tryz.func106, Tryz.ntmps106
    go_wp2_with (go_at_call 130; refine (hrb _).mono ?_; rintro e w' ⟨rfl, rfl⟩)
    all_goals
      go_ret
      refine ⟨congrArg (fun b => Ending.returned (.bool b)) ?_, hb.out _ _⟩
      simp [nothingB, emptyS, hn.out, *]
      try (by_cases hz : n = 0 <;> simp [hz])
end Go.Proofs.YtagkgfniihiinaaGreatDoor
