/- A buffer of bytes that begins anywhere in its block: cut at its head, and more bytes behind it (no program in sight). -/
import Derived.Test.YtfaihaoajdcjbaaGreatDoorBase
import Derived.Lib.SlBytesRow
import Derived.Lib.AppendStr
import Derived.Deep.AppendSrc
import Derived.Test.YtfaihaoajdcjbaaGreatDoorJ27
import Derived.StillTailTactics
set_option linter.all false
namespace Go.Proofs.YtfaihaoajdcjbaaGreatDoor
open Go.RowKit
def Buf (B:Nat) (w:World) (v:Value) (s:ByteArray):Prop:=
 (v=.slice none 0 0/\s.size=0) \/
 ∃b o cap,v=.slice (some ⟨b,o,none⟩) s.size cap/\B<=b/\b<w.heap.size/\s.size<=cap/\cap<=maxLen/\Lib.Bytes w b o s/\∀j,s.size<=j->j<cap->(w.cell? ⟨b,o+j,none⟩).isSome=true/\w.frozen? ⟨b,o+j,none⟩=false
theorem Buf.nil (B:Nat) (w:World):Buf B w (.slice none 0 0) ⟨#[]⟩:=.inl ⟨rfl,rfl⟩
theorem Buf.block {B:Nat} {w:World} {v:Value} {s:ByteArray} (h:Buf B w v s):∀k,v.ownBlock=some k->B<=k/\k<w.heap.size:=by
 intro k hk;rcases h with ⟨rfl,_⟩ | ⟨b,o,cap,rfl,h1,h2,_⟩
 · cases hk
 · have:b=k:=by simpa [Value.ownBlock] using hk
   subst this;exact ⟨h1,h2⟩
theorem Buf.of_block {B:Nat} {w w' : World} {v:Value} {s:ByteArray} (h:Buf B w v s) (hs:w.heap.size<=w'.heap.size) (hb:∀k,v.ownBlock=some k->w'.heap[k]?=w.heap[k]?):Buf B w' v s:=by
 rcases h with h | ⟨b,o,cap,rfl,h1,h2,h3,h4,h5,h6⟩
 · exact .inl h
 · have e:=hb b rfl
   refine .inr ⟨b,o,cap,rfl,h1,Nat.lt_of_lt_of_le h2 hs,h3,h4,fun i hi=>?_,fun j a1 a2=>?_⟩
   · rw [World.cell?_of_block (w:=w) e];exact h5 i hi
   · rw [World.cell?_of_block (w:=w) e,World.frozen?_of_block (w:=w) e];exact h6 j a1 a2
theorem Buf.fr {B:Nat} {w w' : World} {v:Value} {s:ByteArray} {S:Nat->Prop} (h:Buf B w v s) (hf:Fr S w w') (hS:∀k,v.ownBlock=some k->¬S k):Buf B w' v s:=
 h.of_block hf.size fun k hk=>hf.block k (h.block k hk).2 (hS k hk)
theorem Buf.below {B:Nat} {w w' : World} {v:Value} {s:ByteArray} (h:Buf B w v s) (hb:Below w.heap.size w w'):Buf B w' v s:=
 h.of_block hb.size fun k hk=>hb.block k (h.block k hk).2
theorem Buf.shape {B:Nat} {w:World} {v:Value} {s:ByteArray} (h:Buf B w v s):∃a c,v=.slice a s.size c/\s.size<=c:=by
 rcases h with ⟨rfl,h0⟩ | ⟨b,o,cap,rfl,_,_,h3,_⟩
 · exact ⟨none,0,by rw [h0],by omega⟩
 · exact ⟨_,_,rfl,h3⟩
theorem Buf.drop {B:Nat} {w:World} {a:Option Addr} {n c:Nat} {s:ByteArray} (h:Buf B w (.slice a n c) s) {u:Nat} (hu:u<=s.size):n=s.size/\Buf B w (sliced a u n c 1) (s.extract u s.size):=by
 have hz:(s.extract u s.size).size=s.size - u:=by rw [ByteArray.size_extract];omega
 rcases h with ⟨h1,h0⟩ | ⟨b,o,cap,h0,h1,h2,h3,h4,h5,h6⟩
 · cases h1
   have:u=0:=by omega
   subst this;exact ⟨h0.symm,.inl ⟨by simp [sliced],by omega⟩⟩
 · cases h0
   refine ⟨rfl,?_⟩;by_cases hc:c=u
   · have:u=s.size:=by omega
     subst this;refine .inr ⟨b,o,0,by simp [sliced,hc,hz],h1,h2,by omega,Nat.zero_le _,fun i hi=>by omega,fun j _ hj=>by omega⟩
   · refine .inr ⟨b,o+u,c - u,?_,h1,h2,by omega,by omega,fun i hi=>?_,fun j a1 a2=>?_⟩
     · rw [hz]
       unfold sliced;rw [if_neg hc,Option.map_some,Nat.mul_one];congr 2;unfold Addr.add;split
       · rename_i h;subst h;rfl
       · rfl
     · have:=h5 (u+i) (by omega)
       rw [show o+u+i=o+(u+i) by omega,this];congr 3;exact congrArg UInt8.toNat (ByteArray.getElem_extract (by omega)).symm
     · have:=h6 (u+j) (by omega) (by omega)
       rw [show o+u+j=o+(u+j) by omega];exact this
theorem Fj (t:ByteArray) (j:Nat) (h:j<t.size):(Lib.strCells t)[j]?=some (.int .u8 ((t[j]'h).toNat:Int)):=by
 rw [Lib.strCells,List.getElem?_map,Array.getElem?_toList,Array.getElem?_eq_getElem h];rfl
theorem Es {w:World} {b o:Nat} {s:ByteArray} (h:∀j,j<s.size->w.cell? ⟨b,o+j,none⟩=(Lib.strCells s)[j]?):Lib.Bytes w b o s:=fun i hi=>by rw [h i hi,Fj s i hi]
theorem Fo {w:World} {b o:Nat} {s:ByteArray} (h:Lib.Bytes w b o s):∀j u,(Lib.strCells s)[j]?=some u->w.cell? ⟨b,o+j,none⟩=some u:=fun j u hu=>by
 have hj:j<s.size:=by
   have:=(List.getElem?_eq_some_iff.1 hu).1;rwa [Lib.strCells_length] at this
 rw [h j hj,<-Fj s j hj];exact hu
theorem Cp (b o j:Nat):(⟨b,o,none⟩:Addr).add j=⟨b,o+j,none⟩:=by
 unfold Addr.add;split
 · rename_i h;subst h;rfl
 · rfl
theorem os_sets (w:World) (g o:Nat) (vs:List Value):Fr (fun k=>k=g) w (w.setCells g o vs):=Fr.setCells (S:=fun k=>k=g) (fun _=>rfl) _ _ _ (Fr.refl _ _)
theorem Et {P:Program} (w:World) (t tx ty e:TypeId) (i:TypeInfo) (ht:P.underlying t=some (.slice e)) (hi:P.info? e=some i) (base:Option Addr) (sLen sCap:Nat) (hle:sLen<=sCap) (x:Value) (hs:Src P i.size tx x 0 [] w) :
   (Builtin.append_ #[t,tx] ty #[.slice base sLen sCap,x]).run P w=.ok (.slice base sLen sCap) w:=by
 have hcells:=hs.cells;rcases hs.kind with ⟨e', hk⟩ | hk<;>cases base<;>simp [Builtin.append_,run_underlying ht,run_underlying hk,sizeOf,typeInfo,hi,hs.len,hle,hcells,storeCells]
theorem Db {P:Program} {B:Nat} {w:World} {v x:Value} {s t:ByteArray} (ty:TypeId) {tt tx e:TypeId} (E:Elem P tt e 1 1) (h:Buf B w v s) (hs:Src P 1 tx x t.size (Lib.strCells t) w)
   (hn:s.size+t.size<=140737488355328) (hB:B<=w.heap.size) :
   ∃v' w', (Builtin.append_ #[tt,tx] ty #[v,x]).run P w=.ok v' w' /\ Buf B w' v' (s++t)/\Fr (fun k=>v.ownBlock=some k) w w' /\ ∀k,v'.ownBlock=some k->v.ownBlock=some k\/w.heap.size<=k:=by
 obtain ⟨ht,_,_,i,z,hi,hz,hi1,hi2,hz1⟩:=E;have hsz:(s++t).size=s.size+t.size:=ByteArray.size_append
 have grow:∀(a:Option Addr) (c:Nat),v=.slice a s.size c->c<s.size+t.size->(Builtin.firstCells 1 s.size (.slice a s.size c)).run P w.drew=.ok (Lib.strCells s).toArray w.drew ->
     ∃v' w', (Builtin.append_ #[tt,tx] ty #[v,x]).run P w=.ok v' w' /\ Buf B w' v' (s++t)/\Fr (fun k=>v.ownBlock=some k) w w' /\ ∀k,v'.ownBlock=some k->v.ownBlock=some k\/w.heap.size<=k:=by
   rintro a c rfl hg hold
   rw [<-hi1] at hold hs
   have hrun:=run_append_grow_src (P:=P) w tt tx ty e i z ht hi hz a s.size c (Lib.strCells s) hold x t.size (Lib.strCells t) hs hg (by omega) (growslice_fits hg (by rw [hi2,Nat.mul_one];exact hn))
   have hge:=grownCap_ge w (s.size+t.size) c e
   have hcm:=grownCap_le_maxLen w (s.size+t.size) c e (by unfold maxLen;omega)
   have hL:(Lib.strCells s++Lib.strCells t).length=s.size+t.size:=by rw [List.length_append,Lib.strCells_length,Lib.strCells_length]
   refine ⟨_,_,hrun,.inr ⟨w.heap.size,0,_,by rw [hsz],hB,by simp,by omega,hcm,Es fun j hj=>?_,fun j a1 a2=>?_⟩,⟨rfl,rfl,rfl,by simp,fun k hk _=>Below.heap_alloc w.drew _ k hk⟩,fun k hk=>.inr ?_⟩
   · rw [Nat.zero_add]
     have e1:=World.cell?_alloc_new w.drew ((Lib.strCells s++Lib.strCells t).toArray++Builtin.zeroCells z.cells (grownCap w (s.size+t.size) c e - (s.size+t.size))) e j;refine Eq.trans e1 ?_;rw [Array.getElem?_append_left (by rw [List.size_toArray,hL];omega),List.getElem?_toArray,Lib.strCells,Lib.strCells,Lib.strCells,ByteArray.data_append,Array.toList_append,List.map_append]
   · rw [Nat.zero_add]
     have e1:=World.cell?_alloc_new w.drew ((Lib.strCells s++Lib.strCells t).toArray++Builtin.zeroCells z.cells (grownCap w (s.size+t.size) c e - (s.size+t.size))) e j;refine ⟨?_,World.frozen?_alloc_new w.drew _ _ j⟩;have hsz2:((Lib.strCells s++Lib.strCells t).toArray++Builtin.zeroCells z.cells (grownCap w (s.size+t.size) c e - (s.size+t.size))).size=grownCap w (s.size+t.size) c e:=by
       rw [Array.size_append,List.size_toArray,hL,size_zeroCells,hz1,Nat.mul_one];omega
     rw [show w.heap.size=w.drew.heap.size from rfl,e1,Array.getElem?_eq_getElem (by rw [hsz2];exact a2)];rfl
   · have:w.heap.size=k:=by simpa [Value.ownBlock] using hk
     omega
 rcases h with ⟨rfl,h0⟩ | ⟨b,o,cap,rfl,h1,h2,h3,h4,h5,h6⟩
 · have hse:s=⟨#[]⟩:=ByteArray.ext (Array.eq_empty_of_size_eq_zero h0)
   subst hse;by_cases ht0:t.size=0
   · have hte:t=⟨#[]⟩:=ByteArray.ext (Array.eq_empty_of_size_eq_zero ht0)
     subst hte;refine ⟨.slice none 0 0,w,?_,.inl ⟨rfl,rfl⟩,Fr.refl _ _,fun k hk=>by cases hk⟩;rw [<-hi1] at hs;exact Et (P:=P) w tt tx ty e i ht hi none 0 0 (Nat.le_refl _) x hs
   · exact grow none 0 rfl (by omega) (run_firstCells_none w.drew 1 0 0 0)
 · by_cases hroom:s.size+t.size<=cap
   · rw [<-hi1] at hs
     have hl:(Lib.strCells t).length=t.size:=Lib.strCells_length t
     have hr:=run_append_room_src (P:=P) w tt tx ty e i ht hi b o s.size cap x t.size (Lib.strCells t) hs hroom
       (fun j hj=>by rw [hi1,Nat.mul_one,Nat.add_assoc];exact (h6 (s.size+j) (by omega) (by omega)).1)
       (fun j hj=>by rw [hi1,Nat.mul_one,Nat.add_assoc];exact (h6 (s.size+j) (by omega) (by omega)).2)
     rw [hi1,Nat.mul_one] at hr;have hfr:=os_sets w b (o+s.size) (Lib.strCells t);refine ⟨_,_,hr,.inr ⟨b,o,cap,by rw [hsz],h1,Nat.lt_of_lt_of_le h2 hfr.size,by omega,h4,Es fun j hj=>?_,fun j a1 a2=>⟨?_,?_⟩⟩,hfr.mono (fun k _ e=>by rw [e];rfl),fun k hk=>.inl hk⟩
     · rw [hsz] at hj
       rw [show Lib.strCells (s++t)=Lib.strCells s++Lib.strCells t by rw [Lib.strCells,Lib.strCells,Lib.strCells,ByteArray.data_append,Array.toList_append,List.map_append]];by_cases hjs:j<s.size
       · rw [World.cell?_setCells_out b _ _ _ _ (fun _ _=>.inl (by show o+j<o+s.size;omega)),List.getElem?_append_left (by rw [Lib.strCells_length];exact hjs),h5 j hjs,Fj s j hjs]
       · have:=World.cell?_setCells_in b (Lib.strCells t) (o+s.size) w (fun q hq=>by rw [Nat.add_assoc];exact (h6 (s.size+q) (by omega) (by omega)).1) (j - s.size) (by omega)
         rw [show o+s.size+(j - s.size)=o+j by omega] at this;rw [this,List.getElem?_append_right (by rw [Lib.strCells_length];omega),Lib.strCells_length s,List.getElem?_eq_getElem]
     · rw [hsz] at a1
       rw [World.cell?_setCells_out b _ _ _ _ (fun _ _=>.inr (by show o+s.size+(Lib.strCells t).length<=o+j;omega))];exact (h6 j (by omega) a2).1
     · rw [World.frozen?_setCells];exact (h6 j (by omega) a2).2
   · exact grow (some ⟨b,o,none⟩) cap rfl (by omega) (run_firstCells_some w.drew 1 s.size ⟨b,o,none⟩ s.size cap (Lib.strCells s) (by rw [Lib.strCells_length,Nat.mul_one]) (fun j u hu=>by
       rw [Cp];exact Fo h5 j u hu))
structure Rdr (B:Nat) (w:World) (r:Nat) (v:Value) (s:ByteArray) (q:Nat):Prop where
 c0:w.cell? ⟨r,0,none⟩=some v
 c1:w.cell? ⟨r,1,none⟩=some (.int .i64 (q:Int))
 blk:Blk w r
 buf:Buf B w v s
 lt:r<B
 le:B<=w.heap.size
theorem Rdr.below {B r q:Nat} {w w' : World} {v:Value} {s:ByteArray} (h:Rdr B w r v s q) (hb:Below w.heap.size w w'):Rdr B w' r v s q:=
 ⟨Aa hb _ _ h.c0,Aa hb _ _ h.c1,h.blk.of_block (hb.block _ h.blk.lt),h.buf.below hb,h.lt,Nat.le_trans h.le hb.size⟩
def Fs:List Value:=[.int .i64 0,.string ⟨#[]⟩,.int .i64 0,.float .f64 0,.bool false,.slice none 0 0]
theorem eByteB:Elem Tryz.prog 32 5 1 1:=C1 Tryz.underlying32 (by decide) (by decide) (by kernel_rfl)
theorem append_bufF {ops:Array Oper} {rest:List Oper} {o:Oper} {a:Act} {Q:Exit->Act->World->Prop} {sl x:Operand} {B:Nat} {w:World} {v xv:Value} {s t:ByteArray} (hgd:o.guard=none)
   (ho:o.op=.call { callee:=.builtin .append,args:=#[sl,x],argTypes:=#[32,32] }) (hs:a.eval sl=v) (hR:Buf B w v s) (hx:a.eval x=xv) (hsrc:Src Tryz.prog 1 32 xv t.size (Lib.strCells t) w) (hn:s.size+t.size<=140737488355328) (hB:B<=w.heap.size)
   (h:∀v' w', Buf B w' v' (s++t)->Fr (fun k=>v.ownBlock=some k) w w' -> (∀k,v'.ownBlock=some k->v.ownBlock=some k\/w.heap.size<=k)->wpList Tryz.prog ops Q rest (a.put o.dst v') w'):wpList Tryz.prog ops Q (o :: rest) a w:=by
 refine wpList_plain hgd fun K hK=>?_;obtain ⟨v', w', hrun,h1,h2,h3⟩:=Db (P:=Tryz.prog) o.type eByteB hR hsrc hn hB;unfold Oper.wp execOp;simp only [ho,resolve,invoke,builtin,Sem.run_bind,Sem.run_pure,Result.andThen_ok,List.map_toArray,List.map_cons,List.map_nil,hs,hx,hrun];exact hK _ _ (h v' w' h1 h2 h3)
set_option maxRecDepth 100000 in
set_option maxHeartbeats 1600000 in
theorem feed_okF {B r:Nat} {w:World} {v x:Value} {s t:ByteArray} (h:Rdr B w r v s 0) (hx:Src Tryz.prog 1 32 x t.size (Lib.strCells t) w) (hn:s.size+t.size<=1000000000) :
   Calls Tryz.prog 33 #[.pointer (some ⟨r,0,none⟩),x] w fun e w' => ∃v', e=.returned (.tuple #[])/\Rdr B w' r v' (s++t) 0/\Fr (fun k=>k=r\/v.ownBlock=some k) w w' /\ ∀k,v'.ownBlock=some k->v.ownBlock=some k\/w.heap.size<=k:=by
 have c0:=h.c0;have c1:=h.c1;have hbuf:=Hd (h.buf);have hle:=h.le;have hn2:s.size+t.size<=140737488355328:=by omega
 replace hx:=Hd hx;replace h:=Hd h
 go_enter Tryz.func33,Tryz.ntmps33
 go_wp2_with (at_builtin;refine append_bufF rfl rfl rfl hbuf.out rfl hx.out hn2 hle ?_)
 intro v' w1 hb1 hf1 hn1;have hob:¬v.ownBlock=some r:=fun e=>by have:=(hbuf.out.block r e).1;have:=h.out.lt;omega
 obtain ⟨a', c', rfl,hac⟩:=hb1.shape;obtain ⟨N,hN⟩:∃N,N=(s++t).size:=⟨_,rfl⟩;rw [<-hN] at hb1 hn1 ⊢;replace hN:=Hd hN;have hlt:=h.out.lt;have c0:=hf1.cell h.out.c0 hob;have c1:=hf1.cell h.out.c1 hob;have hk:=h.out.blk.fr hf1 hob;have f0:=hk.frz 0 none;have hb1' := Hd hb1;replace hk:=Hd hk;have hff:=Hd (hf1.mono (T:=fun k=>k=r\/v.ownBlock=some k) (fun i _ e=>.inr e));have hsz:=hf1.size;replace hn1:=Hd hn1;clear hf1 hb1 hac;go_wp2_with fail
 go_end0
 have hfr:Fr (fun k=>k=r) w1 (w1.setCell ⟨r,0,none⟩ (.slice a' N c')):=Fr.setCell (S:=fun k=>k=r) (Fr.refl _ _) (fun _=>rfl) _;refine ⟨_,rfl,⟨Af c0,by rw [Ab (by simp)];exact c1,hk.out.setCell _ _,hb1'.out.fr hfr (fun k hk e=>by have:=(hb1'.out.block k hk).1;omega),hlt,by have:=hfr.size;omega⟩,hff.out.trans (hfr.mono fun i _ e=>.inl e),hn1.out⟩
namespace R2
end R2
def BufK (z B:Nat) (w:World) (v:Value) (n:Nat) (xs:List Value):Prop:=
 xs.length=n * z/\((v=.slice none 0 0/\n=0) \/
 ∃b o cap,v=.slice (some ⟨b,o,none⟩) n cap/\B<=b/\b<w.heap.size/\n<=cap/\cap<=maxLen/\(∀j u,xs[j]?=some u->w.cell? ⟨b,o+j,none⟩=some u)/\∀j,n * z<=j->j<cap * z->(w.cell? ⟨b,o+j,none⟩).isSome=true/\w.frozen? ⟨b,o+j,none⟩=false)
theorem BufK.nil (z B:Nat) (w:World):BufK z B w (.slice none 0 0) 0 []:=⟨by simp,.inl ⟨rfl,rfl⟩⟩
theorem BufK.block {z B:Nat} {w:World} {v:Value} {n:Nat} {xs:List Value} (h:BufK z B w v n xs):∀k,v.ownBlock=some k->B<=k/\k<w.heap.size:=by
 intro k hk;rcases h.2 with ⟨rfl,_⟩ | ⟨b,o,cap,rfl,h1,h2,_⟩
 · cases hk
 · have:b=k:=by simpa [Value.ownBlock] using hk
   subst this;exact ⟨h1,h2⟩
theorem BufK.of_block {z B:Nat} {w w' : World} {v:Value} {n:Nat} {xs:List Value} (h:BufK z B w v n xs) (hs:w.heap.size<=w'.heap.size) (hb:∀k,v.ownBlock=some k->w'.heap[k]?=w.heap[k]?):BufK z B w' v n xs:=by
 refine ⟨h.1,?_⟩;rcases h.2 with h | ⟨b,o,cap,rfl,h1,h2,h3,h4,h5,h6⟩
 · exact .inl h
 · have e:=hb b rfl
   refine .inr ⟨b,o,cap,rfl,h1,Nat.lt_of_lt_of_le h2 hs,h3,h4,fun i u hi=>?_,fun j a1 a2=>?_⟩
   · rw [World.cell?_of_block (w:=w) e];exact h5 i u hi
   · rw [World.cell?_of_block (w:=w) e,World.frozen?_of_block (w:=w) e];exact h6 j a1 a2
theorem BufK.fr {z B:Nat} {w w' : World} {v:Value} {n:Nat} {xs:List Value} {S:Nat->Prop} (h:BufK z B w v n xs) (hf:Fr S w w') (hS:∀k,v.ownBlock=some k->¬S k):BufK z B w' v n xs:=
 h.of_block hf.size fun k hk=>hf.block k (h.block k hk).2 (hS k hk)
theorem BufK.below {z B:Nat} {w w' : World} {v:Value} {n:Nat} {xs:List Value} (h:BufK z B w v n xs) (hb:Below w.heap.size w w'):BufK z B w' v n xs:=
 h.of_block hb.size fun k hk=>hb.block k (h.block k hk).2
theorem BufK.shape {z B:Nat} {w:World} {v:Value} {n:Nat} {xs:List Value} (h:BufK z B w v n xs):∃a c,v=.slice a n c/\n<=c:=by
 rcases h.2 with ⟨rfl,h0⟩ | ⟨b,o,cap,rfl,_,_,h3,_⟩
 · exact ⟨none,0,by rw [h0],by omega⟩
 · exact ⟨_,_,rfl,h3⟩
theorem BufK.cells {z B:Nat} {w:World} {v:Value} {n:Nat} {xs:List Value} (h:BufK z B w v n xs) (hn:0<n):∃b o cap,v=.slice (some ⟨b,o,none⟩) n cap/\b<w.heap.size/\∀j u,xs[j]?=some u->w.cell? ⟨b,o+j,none⟩=some u:=by
 rcases h.2 with ⟨_,h0⟩ | ⟨b,o,cap,h0,h1,h2,h3,h4,h5,h6⟩
 · omega
 · exact ⟨b,o,cap,h0,h2,h5⟩
theorem BufK.drop {z B:Nat} {w:World} {a:Option Addr} {n m c:Nat} {xs:List Value} (h:BufK z B w (.slice a m c) n xs) {u:Nat} (hu:u<=n):m=n/\BufK z B w (sliced a u m c z) (n - u) (xs.drop (u * z)):=by
 have hl:=h.1;have hlz:(xs.drop (u * z)).length=(n - u) * z:=by rw [List.length_drop,hl,Nat.sub_mul]
 rcases h.2 with ⟨h1,h0⟩ | ⟨b,o,cap,h0,h1,h2,h3,h4,h5,h6⟩
 · cases h1
   have:u=0:=by omega
   subst this;exact ⟨h0.symm,hlz,.inl ⟨by simp [sliced],by omega⟩⟩
 · cases h0
   refine ⟨rfl,hlz,?_⟩;by_cases hc:c=u
   · have:u=n:=by omega
     subst this;refine .inr ⟨b,o,0,by simp [sliced,hc],h1,h2,by omega,Nat.zero_le _,fun i x hi=>?_,fun j _ hj=>by omega⟩;have:=(List.getElem?_eq_some_iff.1 hi).1;rw [hlz,Nat.sub_self,Nat.zero_mul] at this;omega
   · refine .inr ⟨b,o+u * z,c - u,?_,h1,h2,by omega,by omega,fun i x hi=>?_,fun j a1 a2=>?_⟩
     · unfold sliced
       rw [if_neg hc,Option.map_some];congr 2;unfold Addr.add;split
       · rename_i h;rw [h];rfl
       · rfl
     · have:=h5 (u * z+i) x (by rw [List.getElem?_drop] at hi;exact hi)
       rw [show o+u * z+i=o+(u * z+i) by omega];exact this
     · have e1:n * z=u * z+(n - u) * z:=by rw [<-Nat.add_mul];congr 1;omega
       have e2:c * z=u * z+(c - u) * z:=by rw [<-Nat.add_mul];congr 1;omega
       have:=h6 (u * z+j) (by omega) (by omega);rw [show o+u * z+j=o+(u * z+j) by omega];exact this
theorem A8 {P:Program} {z bs B:Nat} {w:World} {v x:Value} {n m:Nat} {xs ys:List Value} (ty:TypeId) {tt tx e:TypeId} (E:Elem P tt e z bs) (h:BufK z B w v n xs) (hs:Src P z tx x m ys w)
   (hy:ys.length=m * z) (hB:B<=w.heap.size) (hn:n+m<=1000000000) :
   ∃v' w', (Builtin.append_ #[tt,tx] ty #[v,x]).run P w=.ok v' w' /\ BufK z B w' v' (n+m) (xs++ys)/\Fr (fun k=>v.ownBlock=some k) w w' /\ ∀k,v'.ownBlock=some k->v.ownBlock=some k\/w.heap.size<=k:=by
 obtain ⟨ht,hz0,hbs,i,zv,hi,hz,hi1,hi2,hz1⟩:=E;have hl:=h.1;have hL:(xs++ys).length=(n+m) * z:=by rw [List.length_append,hl,hy,Nat.add_mul]
 have hbytes:(n+m) * i.bytes<=140737488355328:=by
   have:=Nat.mul_le_mul hn (show i.bytes<=100000 by omega);omega
 have grow:∀(a:Option Addr) (c:Nat),v=.slice a n c->c<n+m->(Builtin.firstCells z n (.slice a n c)).run P w.drew=.ok xs.toArray w.drew ->
     ∃v' w', (Builtin.append_ #[tt,tx] ty #[v,x]).run P w=.ok v' w' /\ BufK z B w' v' (n+m) (xs++ys)/\Fr (fun k=>v.ownBlock=some k) w w' /\ ∀k,v'.ownBlock=some k->v.ownBlock=some k\/w.heap.size<=k:=by
   rintro a c rfl hg hold
   rw [<-hi1] at hold hs
   have hrun:=run_append_grow_src (P:=P) w tt tx ty e i zv ht hi hz a n c xs hold x m ys hs hg (by omega) (growslice_fits hg hbytes)
   have hge:=grownCap_ge w (n+m) c e
   have hcm:=grownCap_le_maxLen w (n+m) c e (by unfold maxLen;omega)
   have hgz:(n+m) * z<=grownCap w (n+m) c e * z:=Nat.mul_le_mul_right _ hge
   refine ⟨_,_,hrun,⟨hL,.inr ⟨w.heap.size,0,_,rfl,hB,by simp,by omega,hcm,fun j u hj=>?_,fun j a1 a2=>?_⟩⟩,⟨rfl,rfl,rfl,by simp,fun k hk _=>Below.heap_alloc w.drew _ k hk⟩,fun k hk=>.inr ?_⟩
   · have hjl:=(List.getElem?_eq_some_iff.1 hj).1
     rw [Nat.zero_add];have e1:=World.cell?_alloc_new w.drew ((xs++ys).toArray++Builtin.zeroCells zv.cells (grownCap w (n+m) c e - (n+m))) e j;refine Eq.trans e1 ?_;rw [Array.getElem?_append_left (by rw [List.size_toArray];exact hjl),List.getElem?_toArray];exact hj
   · rw [Nat.zero_add]
     have e1:=World.cell?_alloc_new w.drew ((xs++ys).toArray++Builtin.zeroCells zv.cells (grownCap w (n+m) c e - (n+m))) e j;refine ⟨?_,World.frozen?_alloc_new w.drew _ _ j⟩;have hsz2:((xs++ys).toArray++Builtin.zeroCells zv.cells (grownCap w (n+m) c e - (n+m))).size=grownCap w (n+m) c e * z:=by
       rw [Array.size_append,List.size_toArray,hL,size_zeroCells,hz1,<-Nat.add_mul];congr 1;omega
     rw [show w.heap.size=w.drew.heap.size from rfl,e1,Array.getElem?_eq_getElem (by rw [hsz2];exact a2)];rfl
   · have:w.heap.size=k:=by simpa [Value.ownBlock] using hk
     omega
 rcases h.2 with ⟨rfl,rfl⟩ | ⟨b,o,cap,rfl,h1,h2,h3,h4,h5,h6⟩
 · have hxe:xs=[]:=List.length_eq_zero_iff.1 (by omega)
   subst hxe;rcases Nat.eq_zero_or_pos m with rfl | hm
   · have hye:ys=[]:=List.length_eq_zero_iff.1 (by omega)
     subst hye;refine ⟨.slice none 0 0,w,?_,⟨by simp,.inl ⟨rfl,rfl⟩⟩,Fr.refl _ _,fun k hk=>by cases hk⟩;rw [<-hi1] at hs;exact Et (P:=P) w tt tx ty e i ht hi none 0 0 (Nat.le_refl _) x hs
   · exact grow none 0 rfl (by omega) (run_firstCells_none w.drew z 0 0 0)
 · by_cases hroom:n+m<=cap
   · rw [<-hi1] at hs
     have hcz:(n+m) * z<=cap * z:=Nat.mul_le_mul_right _ hroom;have e3:(n+m) * z=n * z+m * z:=Nat.add_mul _ _ _
     have hr:=run_append_room_src (P:=P) w tt tx ty e i ht hi b o n cap x m ys hs hroom
       (fun j hj=>by rw [hi1,Nat.add_assoc];exact (h6 (n * z+j) (by omega) (by omega)).1)
       (fun j hj=>by rw [hi1,Nat.add_assoc];exact (h6 (n * z+j) (by omega) (by omega)).2)
     rw [hi1] at hr;have hfr:=os_sets w b (o+n * z) ys;refine ⟨_,_,hr,⟨hL,.inr ⟨b,o,cap,rfl,h1,Nat.lt_of_lt_of_le h2 hfr.size,by omega,h4,fun j u hj=>?_,fun j a1 a2=>⟨?_,?_⟩⟩⟩,hfr.mono (fun k _ e=>by rw [e];rfl),fun k hk=>.inl hk⟩
     · by_cases hjs:j<n * z
       · rw [World.cell?_setCells_out b _ _ _ _ (fun _ _=>.inl (by show o+j<o+n * z;omega))]
         rw [List.getElem?_append_left (by rw [hl];exact hjs)] at hj;exact h5 j u hj
       · have hjl:=(List.getElem?_eq_some_iff.1 hj).1
         have:=World.cell?_setCells_in b ys (o+n * z) w (fun q hq=>by rw [Nat.add_assoc];exact (h6 (n * z+q) (by omega) (by omega)).1) (j - n * z) (by omega);rw [show o+n * z+(j - n * z)=o+j by omega] at this;rw [this];rw [List.getElem?_append_right (by omega),hl] at hj;rw [<-hj,List.getElem?_eq_getElem]
     · rw [World.cell?_setCells_out b _ _ _ _ (fun _ _=>.inr (by show o+n * z+ys.length<=o+j;omega))]
       exact (h6 j (by omega) a2).1
     · rw [World.frozen?_setCells];exact (h6 j (by omega) a2).2
   · exact grow (some ⟨b,o,none⟩) cap rfl (by omega) (run_firstCells_some w.drew z n ⟨b,o,none⟩ n cap xs hl (fun j u hu=>by
       rw [Cp];exact h5 j u hu))
end Go.Proofs.YtfaihaoajdcjbaaGreatDoor
