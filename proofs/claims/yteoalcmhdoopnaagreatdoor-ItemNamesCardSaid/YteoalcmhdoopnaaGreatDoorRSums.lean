/- nearhandref02's Bits, Add, Order; real.Add at every two numbers; RealSums. -/
import Derived.Test.YteoalcmhdoopnaaGreatDoorRParse
import Derived.Lib.SmallJoins
namespace Go.Proofs.YteoalcmhdoopnaaGreatDoor
open Go.RowKit
def badF (r:Nat):Bool:=nanF r || decide (r % 9223372036854775808=9218868437227405312)
end Go.Proofs.YteoalcmhdoopnaaGreatDoor
