/- Bits of 64: or, and, shifts, as the walk meets them (no program in sight). -/
import Derived.WalkKit
namespace Go.Proofs.YteoalcmhdoopnaaGreatDoor
open Go
theorem Bq (x:Nat) (h:x<18446744073709551616):(BitVec.ofInt 64 (x:Int)).toNat=x:=by
 rw [BitVec.toNat_ofInt];omega
end Go.Proofs.YteoalcmhdoopnaaGreatDoor
