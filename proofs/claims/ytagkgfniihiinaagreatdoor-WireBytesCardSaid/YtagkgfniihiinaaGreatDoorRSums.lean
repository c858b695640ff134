/- nearhandref02's Bits, Add, Order; real.Add at every two numbers; RealSums. -/
import Derived.Test.YtagkgfniihiinaaGreatDoorJ13
namespace Go.Proofs.YtagkgfniihiinaaGreatDoor
open Go.RowKit
theorem refBits_any {r : Nat} (h : r < 18446744073709551616) (w : World) : Calls Tryz.prog 39 #[.float .f64 r] w fun e w' => e = .returned (.int .u64 (canon r : Int)) /\ w' = w:=by
 have hf:=mbits_run r;have hn:=nan_ne h;cases hnan : nanF r with
 | true =>
   have hc : canon r = nanC:=(canon_nan r).2 hnan;rw [hnan] at hn;rw [hc];clear hnan hc
   go_enter Tryz.func39,Tryz.ntmps39
   go_wp2;go_ret;exact ⟨rfl,rfl⟩
 | false =>
   have hc : canon r = r:=by unfold canon; rw [hnan]; rfl
   rw [hnan] at hn;rw [hc];clear hnan hc
   go_enter Tryz.func39,Tryz.ntmps39
   go_wp2;go_ret;exact ⟨rfl,rfl⟩
end Go.Proofs.YtagkgfniihiinaaGreatDoor
