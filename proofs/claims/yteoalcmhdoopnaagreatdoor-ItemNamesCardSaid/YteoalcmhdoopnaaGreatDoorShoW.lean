/- internal/strconv.shortFloat: its walk. -/
import Derived.Test.YteoalcmhdoopnaaGreatDoorPreW
import Derived.Test.YteoalcmhdoopnaaGreatDoorV
namespace Go.Proofs.YteoalcmhdoopnaaGreatDoor
open Go.RowKit
def ScalerAt (w:World) (b r:Nat):Prop:=w.cell? ⟨b,0,none⟩=some (.int .u64 (hiT (fP r):Int))/\w.cell? ⟨b,1,none⟩=some (.int .u64 (loT (fP r):Int))/\w.cell? ⟨b,2,none⟩=some (.int .i64 ((fSc r).toNat:Int))
theorem ScalerAt.below {w w' : World} {b r:Nat} (h:ScalerAt w b r) (hb:Below w.heap.size w w'):ScalerAt w' b r:=⟨Ag hb _ _ h.1,Ag hb _ _ h.2.1,Ag hb _ _ h.2.2⟩
end Go.Proofs.YteoalcmhdoopnaaGreatDoor
