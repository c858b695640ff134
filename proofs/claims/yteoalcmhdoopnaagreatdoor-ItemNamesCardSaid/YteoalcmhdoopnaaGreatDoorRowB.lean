/- A row of bytes of one's own: texts and bytes behind it. -/
import Derived.Test.YteoalcmhdoopnaaGreatDoorRoom
import Derived.Test.YteoalcmhdoopnaaGreatDoorProg
import Derived.Lib.AppendStr
import Derived.Lib.SmallJoins
namespace Go.Proofs.YteoalcmhdoopnaaGreatDoor
open Go.RowKit Go.Joins
structure Row (B:Nat) (w:World) (v:Value) (s:ByteArray):Prop where
 own:w.ownsRow B 5 1 v s.size (Lib.strCells s)
theorem Row.nil (B:Nat) (w:World):Row B w (.slice none 0 0) ⟨#[]⟩:=⟨World.ownsRow_nil _ _ _ _⟩
theorem Row.below {B B' : Nat} {w w' : World} {v:Value} {s:ByteArray} (h:Row B w v s) (hb:Below B' w w') (hB:w.heap.size<=B'):Row B w' v s:=
 ⟨owns_below h.own hb hB⟩
end Go.Proofs.YteoalcmhdoopnaaGreatDoor
