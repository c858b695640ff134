/- The client: what it does, plainly. -/
import Derived.Test.YtfaihaoajdcjbaaGreatDoorCli
set_option linter.all false
namespace Go.Proofs.YtfaihaoajdcjbaaGreatDoor
open Go.RowKit
def CS.tok (s:CS):CS:={ s with last:=s.last+1 }
def CS.ask (s:CS) (t k:Int) (l:List ByteArray):CS:={ s with out:=s.out++Ak l,asked:=s.asked++[(t,k)] }
def CS.close (s:CS):CS:={ s with near:=s.near.clear,out:=⟨#[]⟩,asked:=[],over:=true,main:=⟨#[]⟩,side:=⟨#[]⟩ }
def CS.answer (s:CS) (v:V):CS:=
 match s.asked with
 | []=>s.close
 | a :: l=>
   if a.1=-1/\v.kind=2 then s.close
   else if 0<a.1 then { s with asked:=l,near:=if 0<a.2/\v.kind≠2 then s.near.fill a.2 v else s.near,results:=s.results++[(a.1,v,false)] }
   else { s with asked:=l }
inductive Fed:CS->CS->Prop
 | over {s:CS}:s.over=true->Fed s s
 | wait {s:CS}:s.over=false->s.main.size<=1000000->Aw rp0 8 1 s.main.data.toList=.stop 0->A7 rp0 8 1 s.main.data.toList->Fed s s
 | bad {s t:CS} {q:Nat}:s.over=false->s.main.size<=1000000->Aw rp0 8 1 s.main.data.toList=.stop q->q≠0->A7 rp0 8 1 s.main.data.toList->t=s.close->Fed s t
 | ans {s t:CS} {v:V} {u m:Nat}:s.over=false->s.main.size<=1000000->Aw rp0 8 1 s.main.data.toList=.got (v,u,m)->A7 rp0 8 1 s.main.data.toList->0<u->u<=s.main.size->v.kind≠14->v.count<=1000000 ->
     s.results.length<=1000000->Fed (({ s with main:=s.main.extract u s.main.size }:CS).answer v) t->Fed s t
theorem answer_main (s:CS) (v:V):(s.answer v).over=true\/((s.answer v).over=s.over/\(s.answer v).main=s.main):=by
 unfold CS.answer;split
 · exact .inl rfl
 · split
   · exact .inl rfl
   · split
     · exact .inr ⟨rfl,rfl⟩
     · exact .inr ⟨rfl,rfl⟩
def cliN (w:World) (cb:Nat):Nat:=match w.cell? ⟨cb,14,none⟩ with
 | some (.bool true)=>0
 | _=>match w.cell? ⟨cb,8,none⟩ with
   | some (.pointer (some a))=>match w.cell? ⟨a.block,0,none⟩ with
     | some (.slice _ n _)=>n+1
     | _=>0
   | _=>0
theorem Cli.num {ow:Nat->Nat} {w:World} {cb:Nat} {s:CS} (h:Cli ow w cb s):cliN w cb=if s.over=true then 0 else s.main.size+1:=by
 obtain ⟨p,rs,hC,hP,hq⟩:=h.out;obtain ⟨a,c,hv,_⟩:=hP.main.buf.shape;have h0:=hP.main.c0;rw [hv] at h0;unfold cliN;rw [hC.c14,hC.c8];cases s.over with
 | true=>rfl
 | false=>simp [h0]
def AkB (W:World) (vo:Value) (o:ByteArray) (v:Value) (w:World):Prop:=Buf 0 w v o/\Fr (fun k=>vo.ownBlock=some k) W w/\∀k,v.ownBlock=some k->vo.ownBlock=some k\/W.heap.size<=k
def AkK (z:Nat) (W:World) (vo:Value) (n:Nat) (xs:List Value) (v:Value) (w:World):Prop:=BufK z 0 w v n xs/\Fr (fun k=>vo.ownBlock=some k) W w/\∀k,v.ownBlock=some k->vo.ownBlock=some k\/W.heap.size<=k
theorem Ar {S:Nat->Prop} {w w' : World} (h:Below w.heap.size w w'):Fr S w w' := (Fr.of_below h).mono (fun k h1 h2=>absurd h1 (Nat.not_lt_of_le h2))
section
variable {ow:Nat->Nat} {W w1:World} {cb:Nat} {p:CAt} {rs:List (Option Addr × Nat)} {s:CS}
theorem cli_out (hC:Cells W cb p s) (hP:Parts ow W cb p rs s) {v1:Value} {o:ByteArray} (h:AkB W p.vo o v1 w1) :
   ∃ow', Cells (w1.setCell ⟨cb,10,none⟩ v1) cb { p with vo:=v1 } { s with out:=o }/\Parts ow' (w1.setCell ⟨cb,10,none⟩ v1) cb { p with vo:=v1 } rs { s with out:=o }/\CW ow W ow' (w1.setCell ⟨cb,10,none⟩ v1):=by
 obtain ⟨h1,h2,h3⟩:=h;obtain ⟨hP1,hw1⟩:=hP.setOut h2 h1 h3;have hC1:=hC.fr h2 (fun e=>by have:=hP.ovo cb e;rw [hP.ocb] at this;omega);obtain ⟨ow', hP2,hw2⟩:=hP1.set_cell 10 v1;exact ⟨ow', hC1.put 10 v1 (by omega) rfl,hP2,hw1.trans hw2⟩
theorem cli_asked (hC:Cells W cb p s) (hP:Parts ow W cb p rs s) {v1:Value} {l:List (Int × Int)} (h:AkK 2 W p.va l.length (Bd l) v1 w1) :
   ∃ow', Cells (w1.setCell ⟨cb,11,none⟩ v1) cb { p with va:=v1 } { s with asked:=l }/\Parts ow' (w1.setCell ⟨cb,11,none⟩ v1) cb { p with va:=v1 } rs { s with asked:=l }/\CW ow W ow' (w1.setCell ⟨cb,11,none⟩ v1):=by
 obtain ⟨h1,h2,h3⟩:=h;obtain ⟨hP1,hw1⟩:=hP.setAsked h2 h1 h3;have hC1:=hC.fr h2 (fun e=>by have:=hP.ova cb e;rw [hP.ocb] at this;omega);obtain ⟨ow', hP2,hw2⟩:=hP1.set_cell 11 v1;exact ⟨ow', hC1.put 11 v1 (by omega) rfl,hP2,hw1.trans hw2⟩
theorem E4 (hC:Cells W cb p s) (hP:Parts ow W cb p rs s) {v1:Value} {l:List (Int × V × Bool)} {rs' : List (Option Addr × Nat)} (hr:rs'.length=l.length) (h:AkK 8 W p.vr l.length (resL l rs') v1 w1) :
   ∃ow', Cells (w1.setCell ⟨cb,12,none⟩ v1) cb { p with vr:=v1 } { s with results:=l }/\Parts ow' (w1.setCell ⟨cb,12,none⟩ v1) cb { p with vr:=v1 } rs' { s with results:=l }/\CW ow W ow' (w1.setCell ⟨cb,12,none⟩ v1):=by
 obtain ⟨h1,h2,h3⟩:=h;obtain ⟨hP1,hw1⟩:=hP.setRes h2 h1 hr h3;have hC1:=hC.fr h2 (fun e=>by have:=hP.ovr cb e;rw [hP.ocb] at this;omega);obtain ⟨ow', hP2,hw2⟩:=hP1.set_cell 12 v1;exact ⟨ow', hC1.put 12 v1 (by omega) rfl,hP2,hw1.trans hw2⟩
theorem askedC_snoc (l:List (Int × Int)) (t k:Int):Bd (l++[(t,k)])=Bd l++[.int .i64 t,.int .i64 k]:=by simp [Bd]
theorem Di (l:List (Int × V × Bool)) (rs:List (Option Addr × Nat)) (hl:rs.length=l.length) (x:Int × V × Bool) (r:Option Addr × Nat):resL (l++[x]) (rs++[r])=resL l rs++resC (x,r):=by
 unfold resL;rw [List.zip_append hl.symm];simp
theorem F1 {l:List ByteArray} (hl:∀t∈l,t.size<=1000000) (hn:l.length<=1000):(Ak l).size<=1001000000:=by
 have h1:=Ck 42 l.length (by omega) (by omega);have h2:=Cb (K:=1000000) (by omega) l hl;have h3:l.length * (1000000+26)<=1000 * (1000000+26):=Nat.mul_le_mul_right _ hn;rw [Ak,ByteArray.size_append];omega
end
end Go.Proofs.YtfaihaoajdcjbaaGreatDoor
