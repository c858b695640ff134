/- Reading: that internal/strconv.parseFloat64 gives the rung that is nearest (no program in sight). -/
import Derived.Test.YteoalcmhdoopnaaGreatDoorFlo
import Derived.Test.YteoalcmhdoopnaaGreatDoorTab10
namespace Go.Proofs.YteoalcmhdoopnaaGreatDoor
def len64 (d:Nat):Nat:=if d=0 then 0 else d.log2+1
def hp:Nat:=1075
end Go.Proofs.YteoalcmhdoopnaaGreatDoor
