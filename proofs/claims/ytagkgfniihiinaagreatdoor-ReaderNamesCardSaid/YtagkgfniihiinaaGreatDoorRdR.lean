/- The reader: New and Left. -/
import Derived.Test.YtagkgfniihiinaaGreatDoorRdN
namespace Go.Proofs.YtagkgfniihiinaaGreatDoor
open Go.RowKit

theorem new_any (w : World) : Calls Tryz.prog 25 #[] w fun e w' => e = .returned (.pointer (some ⟨w.heap.size, 0, none⟩)) ∧ w' = w.alloc (.cells #[.slice none 0 0, .int .i64 0] 74) := by
  go_enter Tryz.func25, Tryz.ntmps25
  go_wp2
  go_ret
  exact ⟨rfl, rfl⟩
theorem left_any {w : World} {r : Nat} {ad : Option Addr} {n c : Nat} (h : w.cell? ⟨r, 0, none⟩ = some (.slice ad n c)) : Calls Tryz.prog 28 #[.pointer (some ⟨r, 0, none⟩)] w fun e w' => e = .returned (.int .i64 (n : Int)) ∧ w' = w := by
  go_enter Tryz.func28, Tryz.ntmps28
  go_wp2
  go_ret
  exact ⟨rfl, rfl⟩
end Go.Proofs.YtagkgfniihiinaaGreatDoor
