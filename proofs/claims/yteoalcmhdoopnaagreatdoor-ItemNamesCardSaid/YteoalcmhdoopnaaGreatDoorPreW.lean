/- internal/strconv.prescale and the small ones beside it. -/
import Derived.Test.YteoalcmhdoopnaaGreatDoorBitR
import Derived.Test.YteoalcmhdoopnaaGreatDoorQuiet
import Derived.Test.YteoalcmhdoopnaaGreatDoorShelf
import Derived.Test.YteoalcmhdoopnaaGreatDoorProg
import Derived.Test.YteoalcmhdoopnaaGreatDoorBase
import Derived.Test.YteoalcmhdoopnaaGreatDoorShort
namespace Go.Proofs.YteoalcmhdoopnaaGreatDoor
open Go.RowKit
def Pows (w:World):Prop:=∀p:Int,-348<=p->p<=347->w.cell? ⟨13,(p+348).toNat * 2,none⟩=some (.int .u64 (hiT p:Int))/\w.cell? ⟨13,(p+348).toNat * 2+1,none⟩=some (.int .u64 (loT p:Int))
theorem Pows.lt {w:World} (h:Pows w):13<w.heap.size:=World.block_lt_of_cell? _ _ (h 0 (by decide) (by decide)).1
theorem Pows.fr {S:Nat->Prop} {w w' : World} (h:Pows w) (hf:Fr S w w') (hS:¬S 13):Pows w' := fun p h0 h1=>⟨hf.cell (h p h0 h1).1 hS,hf.cell (h p h0 h1).2 hS⟩
theorem Pows.below {B:Nat} {w w' : World} (h:Pows w) (hb:Below B w w') (hB:13<B):Pows w' := h.fr (Fr.of_below hb) (Nat.not_le_of_lt hB)
end Go.Proofs.YteoalcmhdoopnaaGreatDoor
