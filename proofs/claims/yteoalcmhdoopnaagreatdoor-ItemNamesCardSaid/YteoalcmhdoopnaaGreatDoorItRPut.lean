/- The document's Put. -/
import Derived.Test.YteoalcmhdoopnaaGreatDoorItRef2
namespace Go.Proofs.YteoalcmhdoopnaaGreatDoor
open Go.RowKit
theorem OutB.size {wr:World} {o:Nat} {k:Int} {v:Value} {out:List Fld} (h:OutB wr o k v out):o+1<=wr.heap.size:=h.blk.lt
end Go.Proofs.YteoalcmhdoopnaaGreatDoor
