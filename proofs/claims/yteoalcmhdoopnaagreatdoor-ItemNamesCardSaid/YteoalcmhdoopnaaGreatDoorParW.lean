/- nearhandref01.Parse at every text: the number that it is, or the error's number 11. -/
import Derived.Test.YteoalcmhdoopnaaGreatDoorNum
import Derived.Test.YteoalcmhdoopnaaGreatDoorShelf
import Derived.Test.YteoalcmhdoopnaaGreatDoorProg
import Derived.Lib.IndexBytes
import Derived.Deep.LoopGhost
namespace Go.Proofs.YteoalcmhdoopnaaGreatDoor
open Go.RowKit
def NumOr (r:Option Int) (err:Int) (w:World) (e:Ending) (w' : World):Prop:=(e=.returned (.tuple #[.int .i64 (r.getD 0),.int .i64 (if r.isSome then 0 else err)]))/\Below w.heap.size w w'
theorem A2 {w w' : World} {err:Int} {e:Ending} (h:e=.returned (.tuple #[.int .i64 0,.int .i64 err])) (hb:Below w.heap.size w w'):NumOr none err w e w' := ⟨h,hb⟩
theorem numOr_some {v:Int} {w w' : World} {err:Int} {e:Ending} (h:e=.returned (.tuple #[.int .i64 v,.int .i64 0])) (hb:Below w.heap.size w w'):NumOr (some v) err w e w' := ⟨h,hb⟩
end Go.Proofs.YteoalcmhdoopnaaGreatDoor
