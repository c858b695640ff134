/- The document's Get, Put, Drop, Append; item.Append; fits. -/
import Derived.Test.YteoalcmhdoopnaaGreatDoorItPut
namespace Go.Proofs.YteoalcmhdoopnaaGreatDoor
open Go.RowKit
structure OutB (wr:World) (o:Nat) (k:Int) (v:Value) (out:List Fld):Prop where
 own:wr.ownsRow (o+1) 53 2 v out.length (flds out)
 c0:wr.cell? ⟨o,0,none⟩=some (.int .i64 k)
 c1:wr.cell? ⟨o,1,none⟩=some (.string ⟨#[]⟩)
 c2:wr.cell? ⟨o,2,none⟩=some v
 blk:Blk wr o
theorem OutB.below {wr w' : World} {o:Nat} {k:Int} {v:Value} {out:List Fld} (h:OutB wr o k v out) (hb:Below wr.heap.size wr w'):OutB w' o k v out:=
 ⟨Ap h.own (Fr.of_below hb) (fun q hq=>by have:=(Af h.own q hq).2;omega),Aa hb h.c0,Aa hb h.c1,Aa hb h.c2,h.blk.of_block (hb.block _ h.blk.lt)⟩
theorem OutB.push {wr w1:World} {o:Nat} {k:Int} {v v1:Value} {out:List Fld} {f:Fld} (h:OutB wr o k v out) (hown:w1.ownsRow (o+1) 53 2 v1 (out.length+1) (flds out++(#[.string f.1,.string f.2]:Array Value).toList)) (hf:Fr (fun q=>v.ownBlock=some q) wr w1) :
   OutB (w1.setCell ⟨o,2,none⟩ v1) o k v1 (out++[f])/\Fr (fun q=>q=o\/v.ownBlock=some q) wr (w1.setCell ⟨o,2,none⟩ v1):=by
 have hne:¬v.ownBlock=some o:=fun e=>by have:=(Af h.own o e).1;omega
 have hfr:Fr (fun q=>q=o) w1 (w1.setCell ⟨o,2,none⟩ v1):=(Fr.refl (fun q=>q=o) w1).setCell (p:=⟨o,2,none⟩) (fun _=>rfl) _
 refine ⟨⟨?_,?_,?_,?_,(h.blk.fr hf hne).setCell _ _⟩,?_⟩
 · have e:flds (out++[f])=flds out++(#[.string f.1,.string f.2]:Array Value).toList:=by rw [Ah];rfl
   rw [e,List.length_append];exact Ap hown hfr (fun q hq e=>by have:=(Af hown q hq).1;omega)
 · rw [Bc (by simp)];exact hf.cell h.c0 hne
 · rw [Bc (by simp)];exact hf.cell h.c1 hne
 · exact cell_set_eq (hf.cell h.c2 hne)
 · exact (hf.mono (fun i _ hi=>Or.inr hi)).trans (hfr.mono (fun i _ hi=>Or.inl hi))
end Go.Proofs.YteoalcmhdoopnaaGreatDoor
