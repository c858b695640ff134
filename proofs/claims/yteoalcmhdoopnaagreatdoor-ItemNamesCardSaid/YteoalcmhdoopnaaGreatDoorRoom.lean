/- As append_elem: the row as long as there is room (no program in sight). -/
import Derived.Test.YteoalcmhdoopnaaGreatDoorBase
namespace Go.Proofs.YteoalcmhdoopnaaGreatDoor
open Go.RowKit
theorem owns_below {w w' : World} {B base e size n:Nat} {v:Value} {xs:List Value} (h:w.ownsRow base e size v n xs) (hb:Below B w w') (hB:w.heap.size<=B):w'.ownsRow base e size v n xs:=by
 refine ⟨h.1,?_⟩;rcases h.2 with h2 | ⟨g,cap,cur,e1,e2,e3,e4⟩
 · exact Or.inl h2
 · refine Or.inr ⟨g,cap,cur,e1,e2,?_,e4⟩
   have hg:g<w.heap.size:=by
     rcases Nat.lt_or_ge g w.heap.size with h | h
     · exact h
     · rw [Array.getElem?_eq_none h] at e3;cases e3
   rw [hb.block g (by omega)];exact e3
end Go.Proofs.YteoalcmhdoopnaaGreatDoor
