/- Rows of digits: what they come to, how a float's text is read (no program in sight). -/
import Derived.Test.YteoalcmhdoopnaaGreatDoorShort
namespace Go.Proofs.YteoalcmhdoopnaaGreatDoor
def isD (c:UInt8):Bool:=decide (48<=c.toNat) && decide (c.toNat<=57)
end Go.Proofs.YteoalcmhdoopnaaGreatDoor
