/- real.Parse where the text is a number's and is read without an error; real.Add; the chapter's example. -/
import Derived.Test.YteoalcmhdoopnaaGreatDoorNumD
import Derived.Test.YteoalcmhdoopnaaGreatDoorBase
import Derived.Test.YteoalcmhdoopnaaGreatDoorShelf
import Derived.Test.YteoalcmhdoopnaaGreatDoorProg
import Derived.Lib.IndexBytes
import Derived.Deep.DeepCutAuto
import Derived.Deep.LoopGhost
import Derived.Deep.CutBlock
import Derived.WalkMore
import Derived.Test.YteoalcmhdoopnaaGreatDoorExaW
import Derived.Lib.ConvBytes
import Derived.Lib.SmallJoins
import Derived.Test.YteoalcmhdoopnaaGreatDoorReal
import Derived.Test.YteoalcmhdoopnaaGreatDoorRIs
namespace Go.Proofs.YteoalcmhdoopnaaGreatDoor
open Go.RowKit
theorem Par.below {w w' : World} (h:Par w) (hb:Below w.heap.size w w'):Par w' := by
 obtain ⟨h1,h2,b,c,h3,h4⟩:=h;exact ⟨Ag hb _ _ h1,Ag hb _ _ h2,b,c,Ag hb _ _ h3,fun i z hz=>by
   have h5:=h4 i z hz;exact (hb.cell (World.block_lt_of_cell? _ _ h5)).trans h5⟩
theorem Flo.below {w w' : World} (h:Flo w) (hb:Below w.heap.size w w'):Flo w' := ⟨h.pows.below hb h.pows.lt,Go.Joins.tab_stays tens_named h.tens hb (Nat.le_refl _)⟩
end Go.Proofs.YteoalcmhdoopnaaGreatDoor
