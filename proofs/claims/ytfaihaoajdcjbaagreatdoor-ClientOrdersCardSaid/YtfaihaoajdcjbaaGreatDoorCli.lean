/- The client: what lies. -/
import Derived.Test.YtfaihaoajdcjbaaGreatDoorJ13
import Derived.Test.YtfaihaoajdcjbaaGreatDoorJ26
import Derived.Test.YtfaihaoajdcjbaaGreatDoorWire1
set_option linter.all false
namespace Go.Proofs.YtfaihaoajdcjbaaGreatDoor
open Go.RowKit
structure Md where
 on:Bool
 bcast:Bool
 optin:Bool
 optout:Bool
 noloop:Bool
 redirect:Int
 prefixes:List ByteArray
structure CS where
 near:NS
 md:Md
 out:ByteArray
 asked:List (Int × Int)
 results:List (Int × V × Bool)
 last:Nat
 over:Bool
 main:ByteArray
 side:ByteArray
def Bd (l:List (Int × Int)):List Value:=l.flatMap fun p=>[.int .i64 p.1,.int .i64 p.2]
def resC (p:(Int × V × Bool) × (Option Addr × Nat)):List Value:=[.int .i64 p.1.1,.int .i64 p.1.2.1.kind,.string p.1.2.1.text,.int .i64 p.1.2.1.int,.float .f64 p.1.2.1.real,.bool p.1.2.1.flag,.slice p.2.1 p.1.2.1.list.length p.2.2,.bool p.1.2.2]
def resL (l:List (Int × V × Bool)) (rs:List (Option Addr × Nat)):List Value:=(l.zip rs).flatMap resC
def ownB (v:Value):List Nat:=v.ownBlock.toList
structure CAt where
 nb:Nat
 fp:List Nat
 mn:Nat
 sd:Nat
 vm:Value
 vs:Value
 vo:Value
 va:Value
 vr:Value
 pv:Value
 ex:List Nat
 qm:Nat
 qs:Nat
def CAt.av (p:CAt) (cb:Nat):List Nat:=cb :: p.mn :: p.sd :: (ownB p.vm++ownB p.vs++ownB p.vo++ownB p.va++ownB p.vr++p.ex)
theorem A6 {v:Value} {b:Nat}:b∈ownB v ↔ v.ownBlock=some b:=by simp [ownB]
theorem CAt.mem_av {p:CAt} {cb b:Nat}:b∈p.av cb ↔ b=cb\/b=p.mn\/b=p.sd\/p.vm.ownBlock=some b\/p.vs.ownBlock=some b\/p.vo.ownBlock=some b\/p.va.ownBlock=some b\/p.vr.ownBlock=some b\/b∈p.ex:=by
 simp only [CAt.av,List.mem_cons,List.mem_append,A6,or_assoc]
structure Cells (w:World) (cb:Nat) (p:CAt) (s:CS):Prop where
 c0:w.cell? ⟨cb,0,none⟩=some (P0 p.nb)
 c1:w.cell? ⟨cb,1,none⟩=some (.bool s.md.on)
 c2:w.cell? ⟨cb,2,none⟩=some (.bool s.md.bcast)
 c3:w.cell? ⟨cb,3,none⟩=some (.bool s.md.optin)
 c4:w.cell? ⟨cb,4,none⟩=some (.bool s.md.optout)
 c5:w.cell? ⟨cb,5,none⟩=some (.bool s.md.noloop)
 c6:w.cell? ⟨cb,6,none⟩=some (.int .i64 s.md.redirect)
 c7:w.cell? ⟨cb,7,none⟩=some p.pv
 c8:w.cell? ⟨cb,8,none⟩=some (P0 p.mn)
 c9:w.cell? ⟨cb,9,none⟩=some (P0 p.sd)
 c10:w.cell? ⟨cb,10,none⟩=some p.vo
 c11:w.cell? ⟨cb,11,none⟩=some p.va
 c12:w.cell? ⟨cb,12,none⟩=some p.vr
 c13:w.cell? ⟨cb,13,none⟩=some (.int .i64 (s.last:Int))
 c14:w.cell? ⟨cb,14,none⟩=some (.bool s.over)
structure CW (ow:Nat->Nat) (w:World) (ow' : Nat->Nat) (w' : World):Prop where
 fr:Fr (fun k=>1<=ow k/\ow k<=8) w w'
 same:∀k,k<w.heap.size->ow' k=ow k
 new:∀k,w'.heap.size<=k->ow' k=0
def CLaid (ow:Nat->Nat) (w:World):Prop:=∃W0:World,Nums W0/\Below W0.heap.size W0 w/\∀k,k<W0.heap.size->ow k=0
theorem CLaid.cw {ow ow' : Nat->Nat} {w w' : World} (h:CLaid ow w) (k:CW ow w ow' w'):CLaid ow' w' := by
 obtain ⟨W0,h1,h2,h3⟩:=h;exact ⟨W0,h1,h2.trans (k.fr.below h2.size (fun i hi e=>by have:=h3 i hi;omega)),fun i hi=>by rw [k.same i (Nat.lt_of_lt_of_le hi h2.size)];exact h3 i hi⟩
theorem CLaid.nums {ow:Nat->Nat} {w:World} (h:CLaid ow w):Nums w:=let ⟨_,h1,h2,_⟩:=h;h1.below h2
theorem CLaid.laid {ow:Nat->Nat} {w:World} (h:CLaid ow w):Laid w.heap.size w:=let ⟨W0,h1,h2,_⟩:=h;⟨W0,h2.size,h1,h2⟩
structure Parts (ow:Nat->Nat) (w:World) (cb:Nat) (p:CAt) (rs:List (Option Addr × Nat)) (s:CS):Prop where
 blk:Blk w cb
 near:Av.Near w p.nb p.fp (p.av cb) s.near
 main:Rdr (p.mn+1) w p.mn p.vm s.main p.qm
 side:Rdr (p.sd+1) w p.sd p.vs s.side p.qs
 out:Buf 0 w p.vo s.out
 asked:BufK 2 0 w p.va s.asked.length (Bd s.asked)
 results:BufK 8 0 w p.vr s.results.length (resL s.results rs)
 rlen:rs.length=s.results.length
 pre:Reads w 1 p.pv s.md.prefixes.length (s.md.prefixes.map Value.string)
 plt:∀b,p.pv.ownBlock=some b->b<w.heap.size
 ofp:∀b∈p.fp,ow b=1
 ocb:ow cb=2
 omn:ow p.mn=3
 ovm:∀b,p.vm.ownBlock=some b->ow b=3
 osd:ow p.sd=4
 ovs:∀b,p.vs.ownBlock=some b->ow b=4
 ovo:∀b,p.vo.ownBlock=some b->ow b=5
 ova:∀b,p.va.ownBlock=some b->ow b=6
 ovr:∀b,p.vr.ownBlock=some b->ow b=7
 opv:∀b,p.pv.ownBlock=some b->ow b=8
 oex:∀b∈p.ex,ow b=9
 elt:∀b∈p.ex,b<w.heap.size
 zero:∀k,w.heap.size<=k->ow k=0
 laid:CLaid ow w
theorem CW.trans {o1 o2 o3:Nat->Nat} {a b c:World} (h:CW o1 a o2 b) (k:CW o2 b o3 c):CW o1 a o3 c:=
 ⟨h.fr.trans_new k.fr (fun i hi e=>by rw [h.same i hi] at e;exact e),fun i hi=>by rw [k.same i (Nat.lt_of_lt_of_le hi h.fr.size),h.same i hi],k.new⟩
structure Cli (ow:Nat->Nat) (w:World) (cb:Nat) (s:CS):Prop where
 out:∃(p:CAt) (rs:List (Option Addr × Nat)),Cells w cb p s/\Parts ow w cb p rs s/\p.qm=0/\p.qs=0
def owN (ow:Nat->Nat) (n:Nat) (l:List Nat) (i:Nat):Nat->Nat:=fun k=>if k<n then ow k else if k∈l then i else 0
theorem B4 {ow:Nat->Nat} {n i k:Nat} {l:List Nat} (hk:k∈l) (h:k<n->ow k=i):owN ow n l i k=i:=by
 by_cases h1:k<n
 · rw [owN,if_pos h1];exact h h1
 · rw [owN,if_neg h1,if_pos hk]
theorem Cells.fr {w w' : World} {cb:Nat} {p:CAt} {s:CS} {S:Nat->Prop} (h:Cells w cb p s) (hf:Fr S w w') (hS:¬S cb):Cells w' cb p s:=
 ⟨hf.cell h.c0 hS,hf.cell h.c1 hS,hf.cell h.c2 hS,hf.cell h.c3 hS,hf.cell h.c4 hS,hf.cell h.c5 hS,hf.cell h.c6 hS,hf.cell h.c7 hS,hf.cell h.c8 hS,hf.cell h.c9 hS,hf.cell h.c10 hS,hf.cell h.c11 hS,hf.cell h.c12 hS,hf.cell h.c13 hS,hf.cell h.c14 hS⟩
theorem Reads.own_fr {w w' : World} {z n:Nat} {v:Value} {xs:List Value} {S:Nat->Prop} (h:Reads w z v n xs) (hf:Fr S w w') (hS:∀b,v.ownBlock=some b->¬S b):Reads w' z v n xs:=by
 obtain ⟨a,c,rfl,h1,h2⟩:=h;refine ⟨a,c,rfl,h1,fun j u hj=>?_⟩;obtain ⟨b,o,rfl,h3⟩:=h2 j u hj;exact ⟨b,o,rfl,hf.cell h3 (hS b rfl)⟩
section parts
variable {ow:Nat->Nat} {w w' : World} {cb i:Nat} {p p' : CAt} {rs:List (Option Addr × Nat)} {s:CS} {S:Nat->Prop}
theorem Parts.lt (h:Parts ow w cb p rs s):∀b∈p.av cb,b<w.heap.size:=fun b hb=>by
 rcases CAt.mem_av.1 hb with rfl | rfl | rfl | e | e | e | e | e | e
 · exact h.blk.lt
 · exact h.main.blk.lt
 · exact h.side.blk.lt
 · exact (h.main.buf.block b e).2
 · exact (h.side.buf.block b e).2
 · exact (h.out.block b e).2
 · exact (h.asked.block b e).2
 · exact (h.results.block b e).2
 · exact h.elt b e
theorem Parts.av_ow (h:Parts ow w cb p rs s):∀b∈p.av cb,2<=ow b:=fun b hb=>by
 rcases CAt.mem_av.1 hb with rfl | rfl | rfl | e | e | e | e | e | e
 · rw [h.ocb];omega
 · rw [h.omn];omega
 · rw [h.osd];omega
 · rw [h.ovm b e];omega
 · rw [h.ovs b e];omega
 · rw [h.ovo b e];omega
 · rw [h.ova b e];omega
 · rw [h.ovr b e];omega
 · rw [h.oex b e];omega
theorem Parts.off_av (h:Parts ow w cb p rs s):∀b∈p.fp,b ∉ p.av cb:=fun b hb hm=>by
 have h1:=h.ofp b hb;have h2:=h.av_ow b hm;omega
structure Kept9 (ow:Nat->Nat) (w w' : World) (cb i:Nat) (p:CAt) (rs:List (Option Addr × Nat)) (s:CS):Prop where
 blk:i≠2->Blk w' cb
 main:i≠3->Rdr (p.mn+1) w' p.mn p.vm s.main p.qm
 side:i≠4->Rdr (p.sd+1) w' p.sd p.vs s.side p.qs
 out:i≠5->Buf 0 w' p.vo s.out
 asked:i≠6->BufK 2 0 w' p.va s.asked.length (Bd s.asked)
 results:i≠7->BufK 8 0 w' p.vr s.results.length (resL s.results rs)
 pre:i≠8->Reads w' 1 p.pv s.md.prefixes.length (s.md.prefixes.map Value.string)
 plt:∀b,p.pv.ownBlock=some b->b<w'.heap.size
 ofp:∀b∈p.fp,ow b=1
 ocb:ow cb=2
 omn:ow p.mn=3
 ovm:∀b,p.vm.ownBlock=some b->ow b=3
 osd:ow p.sd=4
 ovs:∀b,p.vs.ownBlock=some b->ow b=4
 ovo:∀b,p.vo.ownBlock=some b->ow b=5
 ova:∀b,p.va.ownBlock=some b->ow b=6
 ovr:∀b,p.vr.ownBlock=some b->ow b=7
 opv:∀b,p.pv.ownBlock=some b->ow b=8
 oex:∀b∈p.ex,ow b=9
 elt:∀b∈p.ex,b<w'.heap.size
 zero:∀k,w'.heap.size<=k->ow k=0
theorem Parts.kept (h:Parts ow w cb p rs s) (hf:Fr S w w') (hS:∀k,k<w.heap.size->S k->ow k=i) (l:List Nat) (hl:∀b∈l,b<w'.heap.size):Kept9 (owN ow w.heap.size l i) w w' cb i p rs s:=by
 have hb:∀j,i≠j->∀k,k<w.heap.size->ow k=j->¬S k:=fun j hj k h1 h2 h3=>hj (by rw [<-h2,hS k h1 h3]);have hz:w.heap.size<=w'.heap.size:=hf.size;have ho:∀k,k<w.heap.size->owN ow w.heap.size l i k=ow k:=fun k h=>if_pos h
 exact ⟨fun e=>h.blk.fr hf (hb 2 e _ h.blk.lt h.ocb),
   fun e=>⟨hf.cell h.main.c0 (hb 3 e _ h.main.blk.lt h.omn),hf.cell h.main.c1 (hb 3 e _ h.main.blk.lt h.omn),h.main.blk.fr hf (hb 3 e _ h.main.blk.lt h.omn),h.main.buf.fr hf (fun k hk=>hb 3 e _ (h.main.buf.block k hk).2 (h.ovm k hk)),h.main.lt,Nat.le_trans h.main.le hz⟩,
   fun e=>⟨hf.cell h.side.c0 (hb 4 e _ h.side.blk.lt h.osd),hf.cell h.side.c1 (hb 4 e _ h.side.blk.lt h.osd),h.side.blk.fr hf (hb 4 e _ h.side.blk.lt h.osd),h.side.buf.fr hf (fun k hk=>hb 4 e _ (h.side.buf.block k hk).2 (h.ovs k hk)),h.side.lt,Nat.le_trans h.side.le hz⟩,
   fun e=>h.out.fr hf (fun k hk=>hb 5 e _ (h.out.block k hk).2 (h.ovo k hk)),
   fun e=>h.asked.fr hf (fun k hk=>hb 6 e _ (h.asked.block k hk).2 (h.ova k hk)),
   fun e=>h.results.fr hf (fun k hk=>hb 7 e _ (h.results.block k hk).2 (h.ovr k hk)),
   fun e=>h.pre.own_fr hf (fun k hk=>hb 8 e _ (h.plt k hk) (h.opv k hk)),
   fun b e=>Nat.lt_of_lt_of_le (h.plt b e) hz,
   fun b hb=>by rw [ho b (h.near.lt b hb)];exact h.ofp b hb,
   by rw [ho _ h.blk.lt];exact h.ocb,
   by rw [ho _ h.main.blk.lt];exact h.omn,
   fun b hb=>by rw [ho _ (h.main.buf.block b hb).2];exact h.ovm b hb,
   by rw [ho _ h.side.blk.lt];exact h.osd,
   fun b hb=>by rw [ho _ (h.side.buf.block b hb).2];exact h.ovs b hb,
   fun b hb=>by rw [ho _ (h.out.block b hb).2];exact h.ovo b hb,
   fun b hb=>by rw [ho _ (h.asked.block b hb).2];exact h.ova b hb,
   fun b hb=>by rw [ho _ (h.results.block b hb).2];exact h.ovr b hb,
   fun b hb=>by rw [ho _ (h.plt b hb)];exact h.opv b hb,
   fun b hb=>by rw [ho _ (h.elt b hb)];exact h.oex b hb,
   fun b hb=>Nat.lt_of_lt_of_le (h.elt b hb) hz,
   fun k hk=>by unfold owN;rw [if_neg (by omega),if_neg (fun hm=>by have:=hl k hm;omega)]⟩
theorem Parts.cw (h:Parts ow w cb p rs s) (hf:Fr S w w') (hS:∀k,k<w.heap.size->S k->ow k=i) (h1:1<=i) (h8:i<=8) (l:List Nat) (hl:∀b∈l,b<w'.heap.size):CW ow w (owN ow w.heap.size l i) w' :=
 ⟨hf.mono fun k a1 a2=>by rw [hS k a1 a2];exact ⟨h1,h8⟩,fun k hk=>if_pos hk,fun k hk=>by have:=hf.size;unfold owN;rw [if_neg (by omega),if_neg (fun hm=>by have:=hl k hm;omega)]⟩
theorem Parts.near9 (h:Parts ow w cb p rs s) (hf:Fr S w w') (hS:∀k,k<w.heap.size->S k->k∈p.av cb) {av' : List Nat} (hn:∀b∈av', b∈p.av cb\/w.heap.size<=b) (hl:∀b∈av', b<w'.heap.size):Av.Near w' p.nb p.fp av' s.near:=
 h.near.move (hf.mono hS) h.off_av hn hl
theorem Parts.setCb (h:Parts ow w cb p rs s) (hf:Fr (fun k=>k=cb) w w') (hb:Blk w' cb):Parts (owN ow w.heap.size [] 2) w' cb p rs s/\CW ow w (owN ow w.heap.size [] 2) w' := by
 have hS:∀k,k<w.heap.size->k=cb->ow k=2:=fun k _ e=>by rw [e];exact h.ocb
 have hl9:∀b∈[],b<w'.heap.size:=fun b h=>by cases h
 have k:=h.kept hf hS [] hl9;exact ⟨⟨hb,h.near9 hf (fun k _ e=>CAt.mem_av.2 (.inl e)) (fun b hb=>.inl hb) (fun b hb=>Nat.lt_of_lt_of_le (h.lt b hb) hf.size),k.main (by decide),k.side (by decide),k.out (by decide),k.asked (by decide),k.results (by decide),h.rlen,k.pre (by decide),k.plt,k.ofp,k.ocb,k.omn,k.ovm,k.osd,k.ovs,k.ovo,k.ova,k.ovr,k.opv,k.oex,k.elt,k.zero,h.laid.cw (h.cw hf hS (by decide) (by decide) [] hl9)⟩,h.cw hf hS (by decide) (by decide) [] hl9⟩
theorem Parts.setOut (h:Parts ow w cb p rs s) {v:Value} {o:ByteArray} (hf:Fr (fun k=>p.vo.ownBlock=some k) w w') (hb:Buf 0 w' v o) (hn:∀k,v.ownBlock=some k->p.vo.ownBlock=some k\/w.heap.size<=k) :
   Parts (owN ow w.heap.size (ownB v) 5) w' cb { p with vo:=v } rs { s with out:=o }/\CW ow w (owN ow w.heap.size (ownB v) 5) w' := by
 have hS:∀k,k<w.heap.size->p.vo.ownBlock=some k->ow k=5:=fun k _ e=>h.ovo k e;have hl9:∀b∈(ownB v),b<w'.heap.size:=fun b hm=>(hb.block b (A6.1 hm)).2;have k:=h.kept hf hS (ownB v) hl9;have hz:=hf.size;refine ⟨⟨k.blk (by decide),h.near9 hf (fun k _ e=>CAt.mem_av.2 (by simp [e])) (fun b hb=>?_) (fun b hb' => ?_),k.main (by decide),k.side (by decide),hb,k.asked (by decide),k.results (by decide),h.rlen,k.pre (by decide),k.plt,k.ofp,k.ocb,k.omn,k.ovm,k.osd,k.ovs,fun b e=>B4 (A6.2 e) (fun hlt=>(hn b e).elim (h.ovo b) (fun h=>by omega)),k.ova,k.ovr,k.opv,k.oex,k.elt,k.zero,h.laid.cw (h.cw hf hS (by decide) (by decide) (ownB v) hl9)⟩,h.cw hf hS (by decide) (by decide) (ownB v) hl9⟩
 · rcases CAt.mem_av.1 hb with e | e | e | e | e | e | e | e | e
   all_goals first | exact (hn b e).elim (fun h=>.inl (CAt.mem_av.2 (by simp [h]))) .inr | exact .inl (CAt.mem_av.2 (by simp [e]))
 · rcases CAt.mem_av.1 hb' with e | e | e | e | e | e | e | e | e
   all_goals first | exact (hb.block b e).2 | exact Nat.lt_of_lt_of_le (h.lt b (CAt.mem_av.2 (by simp [e]))) hz
theorem Parts.setAsked (h:Parts ow w cb p rs s) {v:Value} {l:List (Int × Int)} (hf:Fr (fun k=>p.va.ownBlock=some k) w w') (hb:BufK 2 0 w' v l.length (Bd l)) (hn:∀k,v.ownBlock=some k->p.va.ownBlock=some k\/w.heap.size<=k) :
   Parts (owN ow w.heap.size (ownB v) 6) w' cb { p with va:=v } rs { s with asked:=l }/\CW ow w (owN ow w.heap.size (ownB v) 6) w' := by
 have hS:∀k,k<w.heap.size->p.va.ownBlock=some k->ow k=6:=fun k _ e=>h.ova k e;have hl9:∀b∈(ownB v),b<w'.heap.size:=fun b hm=>(hb.block b (A6.1 hm)).2;have k:=h.kept hf hS (ownB v) hl9;have hz:=hf.size;refine ⟨⟨k.blk (by decide),h.near9 hf (fun k _ e=>CAt.mem_av.2 (by simp [e])) (fun b hb=>?_) (fun b hb' => ?_),k.main (by decide),k.side (by decide),k.out (by decide),hb,k.results (by decide),h.rlen,k.pre (by decide),k.plt,k.ofp,k.ocb,k.omn,k.ovm,k.osd,k.ovs,k.ovo,fun b e=>B4 (A6.2 e) (fun hlt=>(hn b e).elim (h.ova b) (fun h=>by omega)),k.ovr,k.opv,k.oex,k.elt,k.zero,h.laid.cw (h.cw hf hS (by decide) (by decide) (ownB v) hl9)⟩,h.cw hf hS (by decide) (by decide) (ownB v) hl9⟩
 · rcases CAt.mem_av.1 hb with e | e | e | e | e | e | e | e | e
   all_goals first | exact (hn b e).elim (fun h=>.inl (CAt.mem_av.2 (by simp [h]))) .inr | exact .inl (CAt.mem_av.2 (by simp [e]))
 · rcases CAt.mem_av.1 hb' with e | e | e | e | e | e | e | e | e
   all_goals first | exact (hb.block b e).2 | exact Nat.lt_of_lt_of_le (h.lt b (CAt.mem_av.2 (by simp [e]))) hz
theorem Parts.setRes (h:Parts ow w cb p rs s) {v:Value} {l:List (Int × V × Bool)} {rs' : List (Option Addr × Nat)} (hf:Fr (fun k=>p.vr.ownBlock=some k) w w') (hb:BufK 8 0 w' v l.length (resL l rs')) (hr:rs'.length=l.length) (hn:∀k,v.ownBlock=some k->p.vr.ownBlock=some k\/w.heap.size<=k) :
   Parts (owN ow w.heap.size (ownB v) 7) w' cb { p with vr:=v } rs' { s with results:=l }/\CW ow w (owN ow w.heap.size (ownB v) 7) w' := by
 have hS:∀k,k<w.heap.size->p.vr.ownBlock=some k->ow k=7:=fun k _ e=>h.ovr k e;have hl9:∀b∈(ownB v),b<w'.heap.size:=fun b hm=>(hb.block b (A6.1 hm)).2;have k:=h.kept hf hS (ownB v) hl9;have hz:=hf.size;refine ⟨⟨k.blk (by decide),h.near9 hf (fun k _ e=>CAt.mem_av.2 (by simp [e])) (fun b hb=>?_) (fun b hb' => ?_),k.main (by decide),k.side (by decide),k.out (by decide),k.asked (by decide),hb,hr,k.pre (by decide),k.plt,k.ofp,k.ocb,k.omn,k.ovm,k.osd,k.ovs,k.ovo,k.ova,fun b e=>B4 (A6.2 e) (fun hlt=>(hn b e).elim (h.ovr b) (fun h=>by omega)),k.opv,k.oex,k.elt,k.zero,h.laid.cw (h.cw hf hS (by decide) (by decide) (ownB v) hl9)⟩,h.cw hf hS (by decide) (by decide) (ownB v) hl9⟩
 · rcases CAt.mem_av.1 hb with e | e | e | e | e | e | e | e | e
   all_goals first | exact (hn b e).elim (fun h=>.inl (CAt.mem_av.2 (by simp [h]))) .inr | exact .inl (CAt.mem_av.2 (by simp [e]))
 · rcases CAt.mem_av.1 hb' with e | e | e | e | e | e | e | e | e
   all_goals first | exact (hb.block b e).2 | exact Nat.lt_of_lt_of_le (h.lt b (CAt.mem_av.2 (by simp [e]))) hz
theorem Parts.setMain (h:Parts ow w cb p rs s) {v:Value} {m q:Nat} {o:ByteArray} (hf:Fr (fun k=>k=p.mn\/p.vm.ownBlock=some k) w w') (hb:Rdr (m+1) w' m v o q) (hm:m=p.mn\/w.heap.size<=m) (hn:∀k,v.ownBlock=some k->p.vm.ownBlock=some k\/w.heap.size<=k) :
   Parts (owN ow w.heap.size (m :: ownB v) 3) w' cb { p with mn:=m,vm:=v,qm:=q } rs { s with main:=o }/\CW ow w (owN ow w.heap.size (m :: ownB v) 3) w' := by
 have hS:∀k,k<w.heap.size->k=p.mn\/p.vm.ownBlock=some k->ow k=3:=fun k _ e=>e.elim (fun e=>by rw [e];exact h.omn) (h.ovm k);have hl9:∀b∈(m :: ownB v),b<w'.heap.size:=fun b hm=>(List.mem_cons.1 hm).elim (fun e=>by rw [e];exact hb.blk.lt) (fun hm=>(hb.buf.block b (A6.1 hm)).2);have k:=h.kept hf hS (m :: ownB v) hl9;have hz:=hf.size
 refine ⟨⟨k.blk (by decide),h.near9 hf (fun k _ e=>CAt.mem_av.2 (by rcases e with e | e<;>simp [e])) (fun b hb=>?_) (fun b hb' => ?_),hb,k.side (by decide),k.out (by decide),k.asked (by decide),k.results (by decide),h.rlen,k.pre (by decide),k.plt,k.ofp,k.ocb,B4 (List.mem_cons_self ..) (fun hlt=>hm.elim (fun e=>by rw [e];exact h.omn) (fun h=>absurd hlt (Nat.not_lt_of_le h))),fun b e=>B4 (List.mem_cons_of_mem _ (A6.2 e)) (fun hlt=>(hn b e).elim (h.ovm b) (fun h=>by omega)),k.osd,k.ovs,k.ovo,k.ova,k.ovr,k.opv,k.oex,k.elt,k.zero,h.laid.cw (h.cw hf hS (by decide) (by decide) (m :: ownB v) hl9)⟩,h.cw hf hS (by decide) (by decide) (m :: ownB v) hl9⟩
 · rcases CAt.mem_av.1 hb with e | e | e | e | e | e | e | e | e
   all_goals first | exact (hn b e).elim (fun h=>.inl (CAt.mem_av.2 (by simp [h]))) .inr | exact hm.elim (fun h=>.inl (CAt.mem_av.2 (.inr (.inl (by rw [e,<-h]))))) (fun h=>.inr (by rw [e];exact h)) | exact .inl (CAt.mem_av.2 (by simp [e]))
 · rcases CAt.mem_av.1 hb' with e | e | e | e | e | e | e | e | e
   all_goals first | exact (hb.buf.block b e).2 | (rw [e];exact hb.blk.lt) | exact Nat.lt_of_lt_of_le (h.lt b (CAt.mem_av.2 (by simp [e]))) hz
theorem Parts.setSide (h:Parts ow w cb p rs s) {v:Value} {m q:Nat} {o:ByteArray} (hf:Fr (fun k=>k=p.sd\/p.vs.ownBlock=some k) w w') (hb:Rdr (m+1) w' m v o q) (hm:m=p.sd\/w.heap.size<=m) (hn:∀k,v.ownBlock=some k->p.vs.ownBlock=some k\/w.heap.size<=k) :
   Parts (owN ow w.heap.size (m :: ownB v) 4) w' cb { p with sd:=m,vs:=v,qs:=q } rs { s with side:=o }/\CW ow w (owN ow w.heap.size (m :: ownB v) 4) w' := by
 have hS:∀k,k<w.heap.size->k=p.sd\/p.vs.ownBlock=some k->ow k=4:=fun k _ e=>e.elim (fun e=>by rw [e];exact h.osd) (h.ovs k);have hl9:∀b∈(m :: ownB v),b<w'.heap.size:=fun b hm=>(List.mem_cons.1 hm).elim (fun e=>by rw [e];exact hb.blk.lt) (fun hm=>(hb.buf.block b (A6.1 hm)).2);have k:=h.kept hf hS (m :: ownB v) hl9;have hz:=hf.size
 refine ⟨⟨k.blk (by decide),h.near9 hf (fun k _ e=>CAt.mem_av.2 (by rcases e with e | e<;>simp [e])) (fun b hb=>?_) (fun b hb' => ?_),k.main (by decide),hb,k.out (by decide),k.asked (by decide),k.results (by decide),h.rlen,k.pre (by decide),k.plt,k.ofp,k.ocb,k.omn,k.ovm,B4 (List.mem_cons_self ..) (fun hlt=>hm.elim (fun e=>by rw [e];exact h.osd) (fun h=>absurd hlt (Nat.not_lt_of_le h))),fun b e=>B4 (List.mem_cons_of_mem _ (A6.2 e)) (fun hlt=>(hn b e).elim (h.ovs b) (fun h=>by omega)),k.ovo,k.ova,k.ovr,k.opv,k.oex,k.elt,k.zero,h.laid.cw (h.cw hf hS (by decide) (by decide) (m :: ownB v) hl9)⟩,h.cw hf hS (by decide) (by decide) (m :: ownB v) hl9⟩
 · rcases CAt.mem_av.1 hb with e | e | e | e | e | e | e | e | e
   all_goals first | exact (hn b e).elim (fun h=>.inl (CAt.mem_av.2 (by simp [h]))) .inr | exact hm.elim (fun h=>.inl (CAt.mem_av.2 (.inr (.inr (.inl (by rw [e,<-h])))))) (fun h=>.inr (by rw [e];exact h)) | exact .inl (CAt.mem_av.2 (by simp [e]))
 · rcases CAt.mem_av.1 hb' with e | e | e | e | e | e | e | e | e
   all_goals first | exact (hb.buf.block b e).2 | (rw [e];exact hb.blk.lt) | exact Nat.lt_of_lt_of_le (h.lt b (CAt.mem_av.2 (by simp [e]))) hz
theorem Parts.setNear (h:Parts ow w cb p rs s) {fp' : List Nat} {n:NS} (hb:Av.Near w' p.nb fp' (p.av cb) n) (hw:Went w p.fp w' fp') :
   Parts (owN ow w.heap.size fp' 1) w' cb { p with fp:=fp' } rs { s with near:=n }/\CW ow w (owN ow w.heap.size fp' 1) w' := by
 have hS:∀k,k<w.heap.size->k∈p.fp->ow k=1:=fun k _ e=>h.ofp k e;have hl9:∀b∈fp', b<w'.heap.size:=hb.lt;have k:=h.kept hw.1 hS fp' hl9;exact ⟨⟨k.blk (by decide),hb,k.main (by decide),k.side (by decide),k.out (by decide),k.asked (by decide),k.results (by decide),h.rlen,k.pre (by decide),k.plt,fun b e=>B4 e (fun hlt=>(hw.2 b e).elim (h.ofp b) (fun h=>by omega)),k.ocb,k.omn,k.ovm,k.osd,k.ovs,k.ovo,k.ova,k.ovr,k.opv,k.oex,k.elt,k.zero,h.laid.cw (h.cw hw.1 hS (by decide) (by decide) fp' hl9)⟩,h.cw hw.1 hS (by decide) (by decide) fp' hl9⟩
theorem Parts.grow (h:Parts ow w cb p rs s) (hb:Below w.heap.size w w'):Parts ow w' cb p rs s/\CW ow w ow w' := by
 have hz:=hb.size;have hcw:CW ow w ow w' := ⟨(Fr.of_below hb).mono (fun k h1 h2=>by omega),fun _ _=>rfl,fun k hk=>h.zero k (Nat.le_trans hz hk)⟩;exact ⟨⟨h.blk.of_block (hb.block _ h.blk.lt),h.near.below hb,h.main.below hb,h.side.below hb,h.out.below hb,h.asked.below hb,h.results.below hb,h.rlen,h.pre.below hb,fun b e=>Nat.lt_of_lt_of_le (h.plt b e) hz,h.ofp,h.ocb,h.omn,h.ovm,h.osd,h.ovs,h.ovo,h.ova,h.ovr,h.opv,h.oex,fun b e=>Nat.lt_of_lt_of_le (h.elt b e) hz,fun k hk=>h.zero k (Nat.le_trans hz hk),h.laid.cw hcw⟩,hcw⟩
theorem Parts.addEx (h:Parts ow w cb p rs s) (hb:Below w.heap.size w w') (b:Nat) (h1:w.heap.size<=b) (h2:b<w'.heap.size):Parts (owN ow w.heap.size [b] 9) w' cb { p with ex:=b :: p.ex } rs s/\CW ow w (owN ow w.heap.size [b] 9) w' := by
 have hz:=hb.size;have hf:Fr (fun _=>False) w w' := (Fr.of_below hb).mono (fun k h1 h2=>by omega);have hl9:∀c∈[b],c<w'.heap.size:=fun c hc=>by rw [List.mem_singleton] at hc;omega
 have k:=h.kept hf (i:=9) (fun _ _ e=>e.elim) [b] hl9;have hcw:CW ow w (owN ow w.heap.size [b] 9) w' := ⟨hf.mono (fun _ _ e=>e.elim),fun k hk=>if_pos hk,fun j hk=>by unfold owN;rw [if_neg (by omega),if_neg (fun hm=>by have:=hl9 j hm;omega)]⟩;refine ⟨⟨k.blk (by decide),h.near9 hf (fun _ _ e=>e.elim) (fun c hc=>?_) (fun c hc=>?_),k.main (by decide),k.side (by decide),k.out (by decide),k.asked (by decide),k.results (by decide),h.rlen,k.pre (by decide),k.plt,k.ofp,k.ocb,k.omn,k.ovm,k.osd,k.ovs,k.ovo,k.ova,k.ovr,k.opv,fun c hc=>?_,fun c hc=>?_,k.zero,h.laid.cw hcw⟩,hcw⟩
 · rcases CAt.mem_av.1 hc with e | e | e | e | e | e | e | e | e
   all_goals first | exact .inl (CAt.mem_av.2 (by simp [e])) | exact (List.mem_cons.1 e).elim (fun e=>.inr (by rw [e];exact h1)) (fun e=>.inl (CAt.mem_av.2 (by simp [e])))
 · rcases CAt.mem_av.1 hc with e | e | e | e | e | e | e | e | e
   all_goals first | exact Nat.lt_of_lt_of_le (h.lt c (CAt.mem_av.2 (by simp [e]))) hz | exact (List.mem_cons.1 e).elim (fun e=>by rw [e];exact h2) (fun e=>Nat.lt_of_lt_of_le (h.elt c e) hz)
 · rcases List.mem_cons.1 hc with e | e
   · exact B4 (by simp [e]) (fun hlt=>absurd hlt (by rw [e];omega))
   · exact k.oex c e
 · rcases List.mem_cons.1 hc with e | e
   · rw [e];exact h2
   · exact k.elt c e
theorem Parts.setEx (h:Parts ow w cb p rs s) {b:Nat} (hb:b∈p.ex) (hf:Fr (fun k=>k=b) w w'):Parts (owN ow w.heap.size [] 9) w' cb p rs s:=by
 have hS:∀k,k<w.heap.size->k=b->ow k=9:=fun k _ e=>by rw [e];exact h.oex b hb
 have k:=h.kept hf hS [] (fun c hc=>by cases hc);obtain ⟨W0,l1,l2,l3⟩:=h.laid;refine ⟨k.blk (by decide),h.near9 hf (fun k _ e=>CAt.mem_av.2 (by rw [e];simp [hb])) (fun b hb=>.inl hb) (fun b hb=>Nat.lt_of_lt_of_le (h.lt b hb) hf.size),k.main (by decide),k.side (by decide),k.out (by decide),k.asked (by decide),k.results (by decide),h.rlen,k.pre (by decide),k.plt,k.ofp,k.ocb,k.omn,k.ovm,k.osd,k.ovs,k.ovo,k.ova,k.ovr,k.opv,k.oex,k.elt,k.zero,W0,l1,l2.trans (hf.below l2.size (fun i hi e=>by have:=l3 i hi;have:=h.oex b hb;rw [<-e] at this;omega)),fun i hi=>?_⟩;rw [owN,if_pos (Nat.lt_of_lt_of_le hi l2.size)];exact l3 i hi
end parts
theorem CW.ex {o1 o2:Nat->Nat} {a b c:World} (h:CW o1 a o2 b) {B:Nat} (hf:Fr (fun k=>k=B) b c) (hB:a.heap.size<=B):CW o1 a (owN o2 b.heap.size [] 9) c:=
 ⟨h.fr.trans_new hf (fun i hi e=>by omega),fun k hk=>by rw [owN,if_pos (Nat.lt_of_lt_of_le hk h.fr.size)];exact h.same k hk,fun k hk=>by have:=hf.size;rw [owN,if_neg (by omega),if_neg (by simp)]⟩
def offO (ow:Nat->Nat) (w:World):Addr->Option Value:=fun a=>if ow a.block=0 then w.cell? a else none
theorem Gc {ow:Nat->Nat} {w:World} {a:Addr} {u:Value} (h:offO ow w a=some u):w.cell? a=some u/\ow a.block=0:=by
 unfold offO at h;split at h
 · rename_i e;exact ⟨h,e⟩
 · cases h
theorem offO_mk {ow:Nat->Nat} {w:World} {a:Addr} {u:Value} (h:w.cell? a=some u) (e:ow a.block=0):offO ow w a=some u:=by rw [offO,if_pos e];exact h
theorem E3 {ow ow' : Nat->Nat} {w w' : World} (k:CW ow w ow' w'):∀a u,offO ow w a=some u->offO ow' w' a=some u:=fun a u h=>by
 obtain ⟨h1,h2⟩:=Gc h;exact offO_mk (k.fr.cell h1 (fun e=>by omega)) (by rw [k.same _ (World.block_lt_of_cell? _ _ h1)];exact h2)
theorem offO_all {ow:Nat->Nat} {w:World}:∀a u,offO ow w a=some u->w.cell? a=some u:=fun _ _ h=>(Gc h).1
theorem Cells.below {w w' : World} {cb:Nat} {p:CAt} {s:CS} (h:Cells w cb p s) (hb:Below w.heap.size w w'):Cells w' cb p s:=
 ⟨Aa hb _ _ h.c0,Aa hb _ _ h.c1,Aa hb _ _ h.c2,Aa hb _ _ h.c3,Aa hb _ _ h.c4,Aa hb _ _ h.c5,Aa hb _ _ h.c6,Aa hb _ _ h.c7,Aa hb _ _ h.c8,Aa hb _ _ h.c9,Aa hb _ _ h.c10,Aa hb _ _ h.c11,Aa hb _ _ h.c12,Aa hb _ _ h.c13,Aa hb _ _ h.c14⟩
theorem Cli.grow {ow:Nat->Nat} {w w' : World} {cb:Nat} {s:CS} (h:Cli ow w cb s) (hb:Below w.heap.size w w'):Cli ow w' cb s/\CW ow w ow w' := by
 obtain ⟨p,rs,hC,hP,hq⟩:=h.out;obtain ⟨h1,h2⟩:=hP.grow hb;exact ⟨⟨p,rs,hC.below hb,h1,hq⟩,h2⟩
def cellsOf (p:CAt) (s:CS):List Value:=[P0 p.nb,.bool s.md.on,.bool s.md.bcast,.bool s.md.optin,.bool s.md.optout,.bool s.md.noloop,.int .i64 s.md.redirect,p.pv,P0 p.mn,P0 p.sd,p.vo,p.va,p.vr,.int .i64 (s.last:Int),.bool s.over]
theorem Cells.row {w:World} {cb:Nat} {p:CAt} {s:CS} (h:Cells w cb p s):∀(i:Nat) (u:Value),(cellsOf p s)[i]?=some u->w.cell? ⟨cb,i,none⟩=some u:=by
 intro i u hu;have hi:=(List.getElem?_eq_some_iff.1 hu).1;simp only [cellsOf,List.length_cons,List.length_nil] at hi;rcases i with _ | _ | _ | _ | _ | _ | _ | _ | _ | _ | _ | _ | _ | _ | _ | i;all_goals first | omega | (simp [cellsOf] at hu;subst hu;first | exact h.c0 | exact h.c1 | exact h.c2 | exact h.c3 | exact h.c4 | exact h.c5 | exact h.c6 | exact h.c7 | exact h.c8 | exact h.c9 | exact h.c10 | exact h.c11 | exact h.c12 | exact h.c13 | exact h.c14)
theorem Cells.of_row {w:World} {cb:Nat} {p:CAt} {s:CS} (h:∀(i:Nat) (u:Value),(cellsOf p s)[i]?=some u->w.cell? ⟨cb,i,none⟩=some u):Cells w cb p s:=
 ⟨h 0 _ rfl,h 1 _ rfl,h 2 _ rfl,h 3 _ rfl,h 4 _ rfl,h 5 _ rfl,h 6 _ rfl,h 7 _ rfl,h 8 _ rfl,h 9 _ rfl,h 10 _ rfl,h 11 _ rfl,h 12 _ rfl,h 13 _ rfl,h 14 _ rfl⟩
theorem Cells.put {w:World} {cb:Nat} {p p' : CAt} {s s' : CS} (h:Cells w cb p s) (i:Nat) (u:Value) (hi:i<15) (he:cellsOf p' s' = (cellsOf p s).set i u):Cells (w.setCell ⟨cb,i,none⟩ u) cb p' s' := by
 have hl:(cellsOf p s).length=15:=rfl;refine Cells.of_row fun j x hj=>?_;rw [he] at hj;by_cases e:i=j
 · subst e
   rw [List.getElem?_set_self (by rw [hl];exact hi)] at hj;cases hj
   exact Af (h.row i _ (List.getElem?_eq_getElem (by rw [hl];exact hi)))
 · rw [List.getElem?_set_ne e] at hj
   rw [Ab (by simp [e])];exact h.row j x hj
theorem Parts.set_cell {ow:Nat->Nat} {w:World} {cb:Nat} {p:CAt} {rs:List (Option Addr × Nat)} {s:CS} (h:Parts ow w cb p rs s) (i:Nat) (u:Value):∃ow', Parts ow' (w.setCell ⟨cb,i,none⟩ u) cb p rs s/\CW ow w ow' (w.setCell ⟨cb,i,none⟩ u):=
 let ⟨h1,h2⟩:=h.setCb ((Fr.refl (fun k=>k=cb) w).setCell (fun _=>rfl) u) (h.blk.setCell _ _)
 ⟨_,h1,h2⟩
theorem Parts.free {ow:Nat->Nat} {w:World} {cb:Nat} {p:CAt} {rs:List (Option Addr × Nat)} {s:CS} (h:Parts ow w cb p rs s) (n:Nat) (b:Bool):Parts ow w cb p rs { s with last:=n,over:=b }:=
 ⟨h.blk,h.near,h.main,h.side,h.out,h.asked,h.results,h.rlen,h.pre,h.plt,h.ofp,h.ocb,h.omn,h.ovm,h.osd,h.ovs,h.ovo,h.ova,h.ovr,h.opv,h.oex,h.elt,h.zero,h.laid⟩
end Go.Proofs.YtfaihaoajdcjbaaGreatDoor
