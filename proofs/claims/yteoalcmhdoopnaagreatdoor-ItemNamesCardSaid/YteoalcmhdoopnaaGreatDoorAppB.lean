/- Bytes that lie elsewhere, behind a row of one's own; a buffer beside it stays as it is. -/
import Derived.Test.YteoalcmhdoopnaaGreatDoorRowB
namespace Go.Proofs.YteoalcmhdoopnaaGreatDoor
open Go.RowKit
theorem add_at (b o j:Nat):(⟨b,o,none⟩:Addr).add j=⟨b,o+j,none⟩:=by
 unfold Addr.add;split
 · rename_i h;subst h;rfl
 · rfl
def Kept (k:Nat) (w w' : World):Prop:=w'.heap[k]?=w.heap[k]?
theorem Kept.refl (k:Nat) (w:World):Kept k w w:=rfl
theorem Kept.trans {k:Nat} {a b c:World} (h:Kept k a b) (g:Kept k b c):Kept k a c:=Eq.trans g h
theorem Kept.cell {k:Nat} {w w' : World} (h:Kept k w w') (o:Nat):w'.cell? ⟨k,o,none⟩=w.cell? ⟨k,o,none⟩:=World.cell?_of_block (w:=w) h
end Go.Proofs.YteoalcmhdoopnaaGreatDoor
