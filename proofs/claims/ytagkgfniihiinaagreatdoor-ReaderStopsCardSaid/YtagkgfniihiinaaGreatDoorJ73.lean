/- A buffer of bytes that begins anywhere in its block. -/
import Derived.Deep.AppendSrc
import Derived.Test.YtagkgfniihiinaaGreatDoorJ75
import Derived.StillTailTactics
set_option linter.all false
set_option maxHeartbeats 3200000
set_option maxRecDepth 100000
namespace Go.Proofs.YtagkgfniihiinaaGreatDoor
open Go.RowKit
def Buf (B:Nat) (w:World) (v:Value) (s:ByteArray):Prop:=
 (v=.slice none 0 0/\s.size=0) \/
 ∃b o cap,v=.slice (some ⟨b,o,none⟩) s.size cap/\B<=b/\b<w.heap.size/\s.size<=cap/\cap<=maxLen/\Lib.Bytes w b o s/\∀j,s.size<=j->j<cap->(w.cell? ⟨b,o+j,none⟩).isSome=true/\w.frozen? ⟨b,o+j,none⟩=false
theorem Buf.nil (B:Nat) (w:World):Buf B w (.slice none 0 0) ⟨#[]⟩:=.inl ⟨rfl,rfl⟩
theorem Buf.block {B:Nat} {w:World} {v:Value} {s:ByteArray} (h:Buf B w v s):∀k,v.ownBlock=some k->B<=k/\k<w.heap.size:=by
 intro k hk;rcases h with ⟨rfl,_⟩ | ⟨b,o,cap,rfl,h1,h2,_⟩
 ·cases hk
 ·have:b=k:=by simpa [Value.ownBlock] using hk
  subst this;exact ⟨h1,h2⟩
theorem Buf.of_block {B:Nat} {w w' : World} {v:Value} {s:ByteArray} (h:Buf B w v s) (hs:w.heap.size<=w'.heap.size) (hb:∀k,v.ownBlock=some k->w'.heap[k]?=w.heap[k]?):Buf B w' v s:=by
 rcases h with h | ⟨b,o,a,rfl,h1,h2,h3,h4,h5,h6⟩
 ·exact .inl h
 ·have e:=hb b rfl
  refine .inr ⟨b,o,a,rfl,h1,Nat.lt_of_lt_of_le h2 hs,h3,h4,fun i hi=>?_,fun j a1 a2=>?_⟩
  ·rw [World.cell?_of_block (w:=w) e];exact h5 i hi
  ·rw [World.cell?_of_block (w:=w) e,World.frozen?_of_block (w:=w) e];exact h6 j a1 a2
theorem Buf.fr {B:Nat} {w w' : World} {v:Value} {s:ByteArray} {S:Nat->Prop} (h:Buf B w v s) (hf:Fr S w w') (hS:∀k,v.ownBlock=some k->¬S k):Buf B w' v s:=
 h.of_block hf.size fun k hk=>hf.block k (h.block k hk).2 (hS k hk)
theorem Buf.below {B:Nat} {w w' : World} {v:Value} {s:ByteArray} (h:Buf B w v s) (hb:Below w.heap.size w w'):Buf B w' v s:=
 h.of_block hb.size fun k hk=>hb.block k (h.block k hk).2
theorem Buf.shape {B:Nat} {w:World} {v:Value} {s:ByteArray} (h:Buf B w v s):∃a c,v=.slice a s.size c/\s.size<=c:=by
 rcases h with ⟨rfl,h0⟩ | ⟨b,o,cap,rfl,_,_,h3,_⟩
 ·exact ⟨none,0,by rw [h0],by omega⟩
 ·exact ⟨_,_,rfl,h3⟩
theorem Buf.drop {B:Nat} {w:World} {a:Option Addr} {n c:Nat} {s:ByteArray} (h:Buf B w (.slice a n c) s) {u:Nat} (hu:u<=s.size):n=s.size/\Buf B w (sliced a u n c 1) (s.extract u s.size):=by
 have hz:(s.extract u s.size).size=s.size - u:=by rw [ByteArray.size_extract];omega
 rcases h with ⟨h1,h0⟩ | ⟨b,o,cap,h0,h1,h2,h3,h4,h5,h6⟩
 ·cases h1
  have:u=0:=by omega
  subst this;exact ⟨h0.symm,.inl ⟨by simp [sliced],by omega⟩⟩
 ·cases h0
  refine ⟨rfl,?_⟩;by_cases hc:c=u
  ·have:u=s.size:=by omega
   subst this;refine .inr ⟨b,o,0,by simp [sliced,hc,hz],h1,h2,by omega,Nat.zero_le _,fun i hi=>by omega,fun j _ hj=>by omega⟩
  ·refine .inr ⟨b,o+u,c - u,?_,h1,h2,by omega,by omega,fun i hi=>?_,fun j a1 a2=>?_⟩
   ·rw [hz]
    unfold sliced;rw [if_neg hc,Option.map_some,Nat.mul_one];congr 2;unfold Addr.add;split
    ·rename_i h;subst h;rfl
    ·rfl
   ·have:=h5 (u+i) (by omega)
    rw [show o+u+i=o+(u+i) by omega,this];congr 3;exact congrArg UInt8.toNat (ByteArray.getElem_extract (by omega)).symm
   ·have:=h6 (u+j) (by omega) (by omega)
    rw [show o+u+j=o+(u+j) by omega];exact this
theorem cells_at (t:ByteArray) (j:Nat) (h:j<t.size):(Lib.strCells t)[j]?=some (.int .u8 ((t[j]'h).toNat:Int)):=by
 rw [Lib.strCells,List.getElem?_map,Array.getElem?_toList,Array.getElem?_eq_getElem h];rfl
theorem bytes_cells {w:World} {b o:Nat} {s:ByteArray} (h:∀j,j<s.size->w.cell? ⟨b,o+j,none⟩=(Lib.strCells s)[j]?):Lib.Bytes w b o s:=fun i hi=>by rw [h i hi,cells_at s i hi]
theorem cells_of_bytes {w:World} {b o:Nat} {s:ByteArray} (h:Lib.Bytes w b o s):∀j u,(Lib.strCells s)[j]?=some u->w.cell? ⟨b,o+j,none⟩=some u:=fun j u hu=>by
 have hj:j<s.size:=by
  have:=(List.getElem?_eq_some_iff.1 hu).1;rwa [Lib.strCells_length] at this
 rw [h j hj,<-cells_at s j hj];exact hu
theorem add_zr (b o j:Nat):(⟨b,o,none⟩:Addr).add j=⟨b,o+j,none⟩:=by
 unfold Addr.add;split
 ·rename_i h;subst h;rfl
 ·rfl
theorem os_sets (w:World) (g o:Nat) (vs:List Value):Fr (fun k=>k=g) w (w.setCells g o vs):=Fr.setCells (S:=fun k=>k=g) (fun _=>rfl) _ _ _ (Fr.refl _ _)
theorem append_none {P:Program} (w:World) (t tx ty e:TypeId) (i:TypeInfo) (ht:P.underlying t=some (.slice e)) (hi:P.info? e=some i) (base:Option Addr) (sLen sCap:Nat) (hle:sLen<=sCap) (x:Value) (hs:Src P i.size tx x 0 [] w) :
  (Builtin.append_ #[t,tx] ty #[.slice base sLen sCap,x]).run P w=.ok (.slice base sLen sCap) w:=by
 have a:=hs.cells;rcases hs.kind with ⟨e', hk⟩ | hk<;>cases base<;>simp [Builtin.append_,run_underlying ht,run_underlying hk,sizeOf,typeInfo,hi,hs.len,hle,a,storeCells]
theorem run_append_buf {P:Program} {B:Nat} {w:World} {v x:Value} {s t:ByteArray} (ty:TypeId) {tt tx e:TypeId} (E:Elem P tt e 1 1) (h:Buf B w v s) (hs:Src P 1 tx x t.size (Lib.strCells t) w)
   (hn:s.size+t.size<=140737488355328) (hB:B<=w.heap.size) :
   ∃v' w', (Builtin.append_ #[tt,tx] ty #[v,x]).run P w=.ok v' w' /\ Buf B w' v' (s++t)/\Fr (fun k=>v.ownBlock=some k) w w' /\ ∀k,v'.ownBlock=some k->v.ownBlock=some k\/w.heap.size<=k:=by
 obtain ⟨ht,_,_,i,z,hi,hz,d,ab,ac⟩:=E;have g:(s++t).size=s.size+t.size:=ByteArray.size_append
 have grow:∀(a:Option Addr) (c:Nat),v=.slice a s.size c->c<s.size+t.size->(Builtin.firstCells 1 s.size (.slice a s.size c)).run P w.drew=.ok (Lib.strCells s).toArray w.drew ->
     ∃v' w', (Builtin.append_ #[tt,tx] ty #[v,x]).run P w=.ok v' w' /\ Buf B w' v' (s++t)/\Fr (fun k=>v.ownBlock=some k) w w' /\ ∀k,v'.ownBlock=some k->v.ownBlock=some k\/w.heap.size<=k:=by
   rintro a c rfl hg l
   rw [<-d] at l hs
   have m:=run_append_grow_src (P:=P) w tt tx ty e i z ht hi hz a s.size c (Lib.strCells s) l x t.size (Lib.strCells t) hs hg (by omega) (growslice_fits hg (by rw [ab,Nat.mul_one];exact hn))
   have hge:=grownCap_ge w (s.size+t.size) c e
   have r:=grownCap_le_maxLen w (s.size+t.size) c e (by unfold maxLen;omega)
   have hL:(Lib.strCells s++Lib.strCells t).length=s.size+t.size:=by rw [List.length_append,Lib.strCells_length,Lib.strCells_length]
   refine ⟨_,_,m,.inr ⟨w.heap.size,0,_,by rw [g],hB,by simp,by omega,r,bytes_cells fun j hj=>?_,fun j a1 a2=>?_⟩,⟨rfl,rfl,rfl,by simp,fun k hk _=>Below.heap_alloc w.drew _ k hk⟩,fun k hk=>.inr ?_⟩
   · rw [Nat.zero_add]
     have e1:=World.cell?_alloc_new w.drew ((Lib.strCells s++Lib.strCells t).toArray++Builtin.zeroCells z.cells (grownCap w (s.size+t.size) c e - (s.size+t.size))) e j;refine Eq.trans e1 ?_;rw [Array.getElem?_append_left (by rw [List.size_toArray,hL];omega),List.getElem?_toArray,Lib.strCells,Lib.strCells,Lib.strCells,ByteArray.data_append,Array.toList_append,List.map_append]
   · rw [Nat.zero_add]
     have e1:=World.cell?_alloc_new w.drew ((Lib.strCells s++Lib.strCells t).toArray++Builtin.zeroCells z.cells (grownCap w (s.size+t.size) c e - (s.size+t.size))) e j;refine ⟨?_,World.frozen?_alloc_new w.drew _ _ j⟩;have n:((Lib.strCells s++Lib.strCells t).toArray++Builtin.zeroCells z.cells (grownCap w (s.size+t.size) c e - (s.size+t.size))).size=grownCap w (s.size+t.size) c e:=by
       rw [Array.size_append,List.size_toArray,hL,size_zeroCells,ac,Nat.mul_one];omega
     rw [show w.heap.size=w.drew.heap.size from rfl,e1,Array.getElem?_eq_getElem (by rw [n];exact a2)];rfl
   · have:w.heap.size=k:=by simpa [Value.ownBlock] using hk
     omega
 rcases h with ⟨rfl,h0⟩ | ⟨b,o,f,rfl,h1,h2,h3,h4,h5,h6⟩
 · have y:s=⟨#[]⟩:=ByteArray.ext (Array.eq_empty_of_size_eq_zero h0)
   subst y;by_cases ht0:t.size=0
   · have aa:t=⟨#[]⟩:=ByteArray.ext (Array.eq_empty_of_size_eq_zero ht0)
     subst aa;refine ⟨.slice none 0 0,w,?_,.inl ⟨rfl,rfl⟩,Fr.refl _ _,fun k hk=>by cases hk⟩;rw [<-d] at hs;exact append_none (P:=P) w tt tx ty e i ht hi none 0 0 (Nat.le_refl _) x hs
   · exact grow none 0 rfl (by omega) (run_firstCells_none w.drew 1 0 0 0)
 · by_cases hroom:s.size+t.size<=f
   · rw [<-d] at hs
     have hl:(Lib.strCells t).length=t.size:=Lib.strCells_length t
     have hr:=run_append_room_src (P:=P) w tt tx ty e i ht hi b o s.size f x t.size (Lib.strCells t) hs hroom
       (fun j hj=>by rw [d,Nat.mul_one,Nat.add_assoc];exact (h6 (s.size+j) (by omega) (by omega)).1)
       (fun j hj=>by rw [d,Nat.mul_one,Nat.add_assoc];exact (h6 (s.size+j) (by omega) (by omega)).2)
     rw [d,Nat.mul_one] at hr;have p:=os_sets w b (o+s.size) (Lib.strCells t);refine ⟨_,_,hr,.inr ⟨b,o,f,by rw [g],h1,Nat.lt_of_lt_of_le h2 p.size,by omega,h4,bytes_cells fun j hj=>?_,fun j a1 a2=>⟨?_,?_⟩⟩,p.mono (fun k _ e=>by rw [e];rfl),fun k hk=>.inl hk⟩
     · rw [g] at hj
       rw [show Lib.strCells (s++t)=Lib.strCells s++Lib.strCells t by rw [Lib.strCells,Lib.strCells,Lib.strCells,ByteArray.data_append,Array.toList_append,List.map_append]];by_cases hjs:j<s.size
       · rw [World.cell?_setCells_out b _ _ _ _ (fun _ _=>.inl (by show o+j<o+s.size;omega)),List.getElem?_append_left (by rw [Lib.strCells_length];exact hjs),h5 j hjs,cells_at s j hjs]
       · have:=World.cell?_setCells_in b (Lib.strCells t) (o+s.size) w (fun q hq=>by rw [Nat.add_assoc];exact (h6 (s.size+q) (by omega) (by omega)).1) (j - s.size) (by omega)
         rw [show o+s.size+(j - s.size)=o+j by omega] at this;rw [this,List.getElem?_append_right (by rw [Lib.strCells_length];omega),Lib.strCells_length s,List.getElem?_eq_getElem]
     · rw [g] at a1
       rw [World.cell?_setCells_out b _ _ _ _ (fun _ _=>.inr (by show o+s.size+(Lib.strCells t).length<=o+j;omega))];exact (h6 j (by omega) a2).1
     · rw [World.frozen?_setCells];exact (h6 j (by omega) a2).2
   · exact grow (some ⟨b,o,none⟩) f rfl (by omega) (run_firstCells_some w.drew 1 s.size ⟨b,o,none⟩ s.size f (Lib.strCells s) (by rw [Lib.strCells_length,Nat.mul_one]) (fun j u hu=>by
       rw [add_zr];exact cells_of_bytes h5 j u hu))
structure Rdr (B:Nat) (w:World) (r:Nat) (v:Value) (s:ByteArray) (q:Nat):Prop where
 c0:w.cell? ⟨r,0,none⟩=some v
 c1:w.cell? ⟨r,1,none⟩=some (.int .i64 (q:Int))
 blk:Blk w r
 buf:Buf B w v s
 lt:r<B
 le:B<=w.heap.size
theorem Rdr.below {B r q:Nat} {w w' : World} {v:Value} {s:ByteArray} (h:Rdr B w r v s q) (hb:Below w.heap.size w w'):Rdr B w' r v s q:=
 ⟨Aa hb _ _ h.c0,Aa hb _ _ h.c1,h.blk.of_block (hb.block _ h.blk.lt),h.buf.below hb,h.lt,Nat.le_trans h.le hb.size⟩
def F8:List Value:=[.int .i64 0,.string ⟨#[]⟩,.int .i64 0,.float .f64 0,.bool false,.slice none 0 0]
theorem eByteB:Elem Tryz.prog 27 5 1 1:=elem_of Tryz.underlying27 (by decide) (by decide) (by kernel_rfl)
theorem append_bufF {ops:Array Oper} {rest:List Oper} {o:Oper} {a:Act} {Q:Exit->Act->World->Prop} {sl x:Operand} {B:Nat} {w:World} {v xv:Value} {s t:ByteArray} (hgd:o.guard=none)
  (ho:o.op=.call { callee:=.builtin .append,args:=#[sl,x],argTypes:=#[27,27] }) (hs:a.eval sl=v) (hR:Buf B w v s) (hx:a.eval x=xv) (hsrc:Src Tryz.prog 1 27 xv t.size (Lib.strCells t) w) (hn:s.size+t.size<=140737488355328) (hB:B<=w.heap.size)
  (h:∀v' w', Buf B w' v' (s++t)->Fr (fun k=>v.ownBlock=some k) w w' -> (∀k,v'.ownBlock=some k->v.ownBlock=some k\/w.heap.size<=k)->wpList Tryz.prog ops Q rest (a.put o.dst v') w'):wpList Tryz.prog ops Q (o :: rest) a w:=by
 refine wpList_plain hgd fun K hK=>?_;obtain ⟨v', w', b,h1,h2,h3⟩:=run_append_buf (P:=Tryz.prog) o.type eByteB hR hsrc hn hB;unfold Oper.wp execOp;simp only [ho,resolve,invoke,builtin,Sem.run_bind,Sem.run_pure,Result.andThen_ok,List.map_toArray,List.map_cons,List.map_nil,hs,hx,b];exact hK _ _ (h v' w' h1 h2 h3)
theorem feed_okF {B r:Nat} {w:World} {v x:Value} {s t:ByteArray} (h:Rdr B w r v s 0) (hx:Src Tryz.prog 1 27 x t.size (Lib.strCells t) w) (hn:s.size+t.size<=1000000000) :
  Calls Tryz.prog 26 #[.pointer (some ⟨r,0,none⟩),x] w fun e w' => ∃v', e=.returned (.tuple #[])/\Rdr B w' r v' (s++t) 0/\Fr (fun k=>k=r\/v.ownBlock=some k) w w' /\ ∀k,v'.ownBlock=some k->v.ownBlock=some k\/w.heap.size<=k:=by
 have c0:=h.c0;have c1:=h.c1;have d:=Hd (h.buf);have l:=h.le;have m:s.size+t.size<=140737488355328:=by omega
 replace hx:=Hd hx;replace h:=Hd h
 go_enter Tryz.func26,Tryz.ntmps26
 go_wp2_with (at_builtin;refine append_bufF rfl rfl rfl d.out rfl hx.out m l ?_)
 intro v' w1 b a c;have g:¬v.ownBlock=some r:=fun e=>by have:=(d.out.block r e).1;have:=h.out.lt;omega
 obtain ⟨a', c', rfl,p⟩:=b.shape;obtain ⟨N,hN⟩:∃N,N=(s++t).size:=⟨_,rfl⟩;rw [<-hN] at b c ⊢;replace hN:=Hd hN;have n:=h.out.lt;have c0:=a.cell h.out.c0 g;have c1:=a.cell h.out.c1 g;have hk:=h.out.blk.fr a g;have f0:=hk.frz 0 none;have f := Hd b;replace hk:=Hd hk;have o:=Hd (a.mono (T:=fun k=>k=r\/v.ownBlock=some k) (fun i _ e=>.inr e));have hsz:=a.size;replace c:=Hd c;clear a b p;go_wp2_with fail
 go_end0
 have j:Fr (fun k=>k=r) w1 (w1.setCell ⟨r,0,none⟩ (.slice a' N c')):=Fr.setCell (S:=fun k=>k=r) (Fr.refl _ _) (fun _=>rfl) _;refine ⟨_,rfl,⟨Ak c0,by rw [Ac (by simp)];exact c1,hk.out.setCell _ _,f.out.fr j (fun k hk e=>by have:=(f.out.block k hk).1;omega),n,by have:=j.size;omega⟩,o.out.trans (j.mono fun i _ e=>.inl e),c.out⟩
theorem feed_ok {B r:Nat} {w:World} {v x:Value} {s t:ByteArray} (h:Rdr B w r v s 0) (hx:Src Tryz.prog 1 27 x t.size (Lib.strCells t) w) (hn:s.size+t.size<=1000000000) :
  Calls Tryz.prog 26 #[.pointer (some ⟨r,0,none⟩),x] w fun e w' => ∃v', e=.returned (.tuple #[])/\Rdr B w' r v' (s++t) 0/\Fr (fun k=>k=r\/B<=k) w w' :=
 (feed_okF h hx hn).mono fun e w' ⟨v', h1,h2,h3,_⟩=>⟨v', h1,h2,h3.mono fun k _ hk=>hk.imp id fun e=>(h.buf.block k e).1⟩
theorem feed_err {B r q:Nat} {w:World} {v x:Value} {s:ByteArray} (h:Rdr B w r v s q) (hq:q≠0) :
  Calls Tryz.prog 26 #[.pointer (some ⟨r,0,none⟩),x] w fun e w' => e=.returned (.tuple #[])/\w' = w:=by
 have c1:=h.c1;have hqb:((q:Int) == 0)=false:=by simp;omega
 replace hq:=Hd hq;replace h:=Hd h
 go_enter Tryz.func26,Tryz.ntmps26
 go_wp2_with fail
 go_end0
 exact ⟨rfl,rfl⟩
structure CsN (M:Nat) (W w:World):Prop where
 fr:Fr (fun k=>k=M) W w
 t0:∃ys:List Value,ys.length=6/\w.rangeAt M 0 ys
 k0:Blk w M
def csN (M:Nat) (i:Nat) (w w' : World):Prop:=match i with
 | 5=>Fr (fun k=>k=M) w w'
 | _=>w' = w
namespace R2
theorem next_err {B r q:Nat} {w:World} {v:Value} {s:ByteArray} (h:Rdr B w r v s q) (hq:q≠0) :
  Calls Tryz.prog 27 #[.pointer (some ⟨r,0,none⟩)] w fun e w' => e=.returned (.tuple #[.agg F8.toArray,.bool false,.int .i64 (q:Int)])/\Below w.heap.size w w' := by
 obtain ⟨W1,hW1⟩:∃W1,W1=w.alloc (.cells #[.int .i64 0,.string ⟨#[]⟩,.int .i64 0,.float .f64 0,.bool false,.slice none 0 0] 26):=⟨_,rfl⟩;have b:Below w.heap.size w W1:=by rw [hW1];exact (Below.refl _ _).alloc (Nat.le_refl _) _
 have ai:((q:Int) == 0)=false:=by simp;omega
 have hqn:((q:Int) != 0)=true:=by simp [bne,ai]
 have c1:=Aa b _ _ h.c1;have r1:W1.rangeAt w.heap.size 0 [.int .i64 0,.string ⟨#[]⟩,.int .i64 0,.float .f64 0,.bool false,.slice none 0 0]:=by
  rw [hW1];intro j y hj;rw [Nat.zero_add,World.cell?_alloc_new];simpa using hj
 have k1:Blk W1 w.heap.size:=by rw [hW1];exact Blk.new _ _ _
 have aj:=Hd (Af (n:=6) r1 k1 rfl);replace hq:=Hd hq;replace h:=Hd h;replace hW1:=Hd hW1;replace k1:=Hd k1;replace b:=Hd b
 go_enter Tryz.func27,Tryz.ntmps27
 go_upto_region 1 with fail
 rw [<-hW1.out];go_upto_region 2 with fail
 obtain ⟨M,hM⟩:∃M,M=w.heap.size:=⟨_,rfl⟩;rw [<-hM] at r1 b k1 aj ⊢;have hlt:r<M:=by rw [hM];exact h.out.blk.lt
 have ak:¬r=M:=by omega
 have al:CsN M W1 W1.drew:=⟨(Fr.refl _ _).drew,⟨_,rfl,r1⟩,k1.out.drew⟩;refine wp_region_rely (l:=[_,_,_,_,_,_,_,_]) (CsN M W1) (fun _=>True) (csN M) (fun f=>([fun v _=>v=.agg #[.int .i64 0,.string ⟨#[]⟩,.int .i64 0,.float .f64 0,.bool false,.slice none 0 0],fun v _=>v=.pointer (some ⟨r,0,none⟩),fun v _=>v=.pointer (some ⟨r,0,none⟩),fun v _=>v=.pointer (some ⟨r,1,none⟩),fun v _=>v=.int .i64 (q:Int),fun v w=>w.rangeAt M 0 [.int .i64 0,.string ⟨#[]⟩,.int .i64 0,.float .f64 0,.bool false,.slice none 0 0],fun v _=>v=.bool false,fun v _=>v=.int .i64 (q:Int)]:List (Value->World->Prop)).getD f (fun _ _=>True)) (eats []) (isIn []) (by kernel_rfl) (by kernel_rfl) (by kernel_rfl) al trivial ?_ ?_ ?_ ?_
 ·intro i f u w w' m hE hg hr
  rcases f with _ | _ | _ | _ | _ | _ | _ | _ | f
  ·exact hg
  ·exact hg
  ·exact hg
  ·exact hg
  ·exact hg
  ·replace hg:(fun (v:Value) (w:World)=>w.rangeAt M 0 [.int .i64 0,.string ⟨#[]⟩,.int .i64 0,.float .f64 0,.bool false,.slice none 0 0]) u w:=hg
   show (fun (v:Value) (w:World)=>w.rangeAt M 0 [.int .i64 0,.string ⟨#[]⟩,.int .i64 0,.float .f64 0,.bool false,.slice none 0 0]) u w';dsimp only at hg ⊢;replace hE:exB _ _ i 5=false:=hE;replace m:5≠i:=m;unfold csN at hr;split at hr
   all_goals first
    | exact absurd rfl m
    | exact absurd (hE.symm.trans (by decide +kernel:exB _ _ _ _=true)) (by decide)
    | (subst hr;exact hg)
    | ((intro j y hj;exact hr.cell (hg j y hj) (by show ¬M=_;omega)))
  ·exact hg
  ·exact hg
  ·trivial
 ·exact fun _ _ _ _ _ _=>trivial
 ·refine ⟨?_,?_,?_,?_,?_,?_,?_,?_,trivial⟩
  ·refine VC.plain rfl fun a wx hf=>?_
   exact gives_value (by simp [go_sem,Tryz.underlying26]) ⟨hf.c,rfl,rfl⟩
  ·refine VC.plain rfl fun a wx hf=>?_
   have s0:=hf.old 0 (by first | rfl | kernel_rfl);have q0:=Be s0;exact gives_value (by simp [go_sem,q0]) ⟨hf.c,rfl,rfl⟩
  ·refine VC.plain rfl fun a wx hf=>?_
   obtain ⟨aq,ad,o⟩:=hf.got 1 (by kernel_rfl) (by intro j hj;simp [eats] at hj) rfl rfl;replace o:=o.trans (show aq=.pointer (some ⟨r,0,none⟩) from ad);clear ad;have am:=Be o;exact gives_value (by simp [go_sem,am]) ⟨hf.c,rfl,rfl⟩
  ·refine VC.plain rfl fun a wx hf=>?_
   obtain ⟨ar,ae,t⟩:=hf.got 2 (by kernel_rfl) (by intro j hj;simp [eats] at hj) rfl rfl;replace t:=t.trans (show ar=.pointer (some ⟨r,0,none⟩) from ae);clear ae;have an:=Be t;exact gives_value (by simp [go_sem,an]) ⟨hf.c,rfl,rfl⟩
  ·refine VC.plain rfl fun a wx hf=>?_
   obtain ⟨au,af,z⟩:=hf.got 3 (by kernel_rfl) (by intro j hj;simp [eats] at hj) rfl rfl;replace z:=z.trans (show au=.pointer (some ⟨r,1,none⟩) from af);clear af;have ao:=Be z;exact gives_value (by simp [go_sem,ao,Fr.cell (p:=⟨r,1,none⟩) hf.c.fr c1 ak]) ⟨hf.c,rfl,rfl⟩
  ·refine VC.plain rfl fun a wx hf=>?_
   have s2:=hf.old 2 (by first | rfl | kernel_rfl);have q2:=Be s2;obtain ⟨av,ag,g⟩:=hf.got 0 (by kernel_rfl) (by intro j hj;simp [eats] at hj) rfl rfl;replace g:=g.trans (show av=.agg #[.int .i64 0,.string ⟨#[]⟩,.int .i64 0,.float .f64 0,.bool false,.slice none 0 0] from ag);clear ag;have q13:=Be g;obtain ⟨ys,aw,ax⟩:=hf.c.t0;have ht:=Af (n:=6) ax hf.c.k0 aw.symm;have ab:Fr (fun k=>k=M) wx (wx.setCells M 0 [.int .i64 0,.string ⟨#[]⟩,.int .i64 0,.float .f64 0,.bool false,.slice none 0 0]):=Fr.setCells (S:=fun k=>k=M) (fun _=>rfl) _ _ _ (Fr.refl _ _);have ac:=World.rangeAt_setCells_same _ _ _ [Value.int .i64 0,.string ⟨#[]⟩,.int .i64 0,.float .f64 0,.bool false,.slice none 0 0] ht;exact Eg rfl (s2.trans rfl) g ht Ad (one6 _ _ _ _ _ _ _ _) ⟨⟨hf.c.fr.trans ab,⟨_,rfl,ac⟩,Blk.setCells _ _ _ hf.c.k0⟩,ab,ac⟩
  ·refine VC.plain rfl fun a wx hf=>?_
   exact gives_value (by simp [go_sem]) ⟨hf.c,rfl,rfl⟩
  ·refine VC.plain rfl fun a wx hf=>?_
   obtain ⟨ay,ah,aa⟩:=hf.got 4 (by kernel_rfl) (by intro j hj;simp [eats] at hj) rfl rfl;replace aa:=aa.trans (show ay=.int .i64 (q:Int) from ah);clear ah;have ap:=Be aa;exact gives_value (by simp [go_sem,ap]) ⟨hf.c,rfl,rfl⟩
 ·intro vs w5 hC hG
  have g5:w5.rangeAt M 0 [.int .i64 0,.string ⟨#[]⟩,.int .i64 0,.float .f64 0,.bool false,.slice none 0 0]:=hG 5 (by decide) (by intro i hi;simp [eats]);have g6:vs 6=.bool false:=hG 6 (by decide) (by intro i hi;simp [eats]);have g7:vs 7=.int .i64 (q:Int):=hG 7 (by decide) (by intro i hi;simp [eats]);clear hG;have d:=b.out.trans (hC.fr.below (by rw [hM];exact b.out.size) (fun i hi e=>by omega));have e0:=g5 0 _ rfl;have e1:=g5 1 _ rfl;have e2:=g5 2 _ rfl;have e3:=g5 3 _ rfl;have e4:=g5 4 _ rfl;have e5:=g5 5 _ rfl;simp only [Nat.zero_add] at e0 e1 e2 e3 e4 e5;replace d:=Hd d;simp only [A6,Act.put,List.setIfInBounds_toArray,List.set_cons_zero,List.set_cons_succ];go_wp2_with fail
  refine bodyPost_ret (v:=.tuple #[.agg F8.toArray,.bool false,.int .i64 (q:Int)]) (by simp [results,Tryz.results27,go_sem,g6,g7,e0,e1,e2,e3,e4,e5,F8]) rfl ?_;refine ⟨rfl,?_⟩;have:=d.out;rw [hM] at this;exact this
end R2
theorem A4 (W:World) (t:TypeId):(W.alloc (.cells #[.int .i64 0,.string ⟨#[]⟩,.int .i64 0,.float .f64 0,.bool false,.slice none 0 0] t)).there W.heap.size 0 6:=
 Af (n:=6) (cs:=[.int .i64 0,.string ⟨#[]⟩,.int .i64 0,.float .f64 0,.bool false,.slice none 0 0]) (fun j y hj=>by rw [Nat.zero_add,World.cell?_alloc_new];simpa using hj) (Blk.new _ _ _) rfl
theorem B5 (W:World) (t:TypeId) (c:List Value) (hc:c.length=6):Below W.heap.size W ((W.alloc (.cells #[.int .i64 0,.string ⟨#[]⟩,.int .i64 0,.float .f64 0,.bool false,.slice none 0 0] t)).setCells W.heap.size 0 c) /\
  ((W.alloc (.cells #[.int .i64 0,.string ⟨#[]⟩,.int .i64 0,.float .f64 0,.bool false,.slice none 0 0] t)).setCells W.heap.size 0 c).rangeAt W.heap.size 0 c/\Blk ((W.alloc (.cells #[.int .i64 0,.string ⟨#[]⟩,.int .i64 0,.float .f64 0,.bool false,.slice none 0 0] t)).setCells W.heap.size 0 c) W.heap.size:=by
 have hb:Below W.heap.size W (W.alloc (.cells #[.int .i64 0,.string ⟨#[]⟩,.int .i64 0,.float .f64 0,.bool false,.slice none 0 0] t)):=(Below.refl _ _).alloc (Nat.le_refl _) _;refine ⟨hb.trans ((Fr.setCells (S:=fun k=>k=W.heap.size) (fun _=>rfl) _ _ _ (Fr.refl _ _)).below hb.size (fun i hi e=>by omega)),World.rangeAt_setCells_same _ _ _ _ (by rw [hc];exact A4 W t),Blk.setCells _ _ _ (Blk.new _ _ _)⟩
theorem next_bad {B r q n c:Nat} {a:Option Addr} {w:World} {s:ByteArray} (h:Rdr B w r (.slice a n c) s 0) (hq:q≠0) (hp:∀W,Below w.heap.size w W->Calls Tryz.prog 24 #[.slice a n c] W (Fl (.stop q) W)) :
  Calls Tryz.prog 27 #[.pointer (some ⟨r,0,none⟩)] w fun e w' => e=.returned (.tuple #[.agg F8.toArray,.bool false,.int .i64 (q:Int)])/\Rdr B w' r (.slice none 0 0) ⟨#[]⟩ q/\Fr (fun k=>k=r) w w' := by
 have ad:((q:Int) == 0)=false:=by simp;omega
 have hqn:((q:Int) != 0)=true:=by simp [bne,ad]
 replace hq:=Hd hq;obtain ⟨W1,hW1⟩:∃W1,W1=w.alloc (.cells #[.int .i64 0,.string ⟨#[]⟩,.int .i64 0,.float .f64 0,.bool false,.slice none 0 0] 26):=⟨_,rfl⟩;have b:Below w.heap.size w W1:=by rw [hW1];exact (Below.refl _ _).alloc (Nat.le_refl _) _
 have r1:W1.rangeAt w.heap.size 0 [.int .i64 0,.string ⟨#[]⟩,.int .i64 0,.float .f64 0,.bool false,.slice none 0 0]:=by
  rw [hW1];intro j y hj;rw [Nat.zero_add,World.cell?_alloc_new];simpa using hj
 have k1:Blk W1 w.heap.size:=by rw [hW1];exact Blk.new _ _ _
 have c0:=Aa b _ _ h.c0;have c1:=Aa b _ _ h.c1;have hM:r<w.heap.size:=h.blk.lt;replace h:=Hd h;replace hW1:=Hd hW1;replace hp:=Hd hp;replace k1:=Hd k1;replace r1:=Hd r1
 go_enter Tryz.func27,Tryz.ntmps27
 go_upto_region 1 with fail
 rw [<-hW1.out];go_wp2_with fail
 refine (hp.out W1 b).mono ?_;intro e W2 he;unfold Fl at he
 (obtain ⟨rfl,m⟩:=he)
 have u:=Hd (b.trans (m.mono b.size));have hv:=Hd (B5 W2 26 [.int .i64 0,.string ⟨#[]⟩,.int .i64 0,.float .f64 0,.bool false,.slice none 0 0] rfl);have hth:=Hd (A4 W2 26);clear c0 c1;replace b:=Hd b;replace m:=Hd m;go_upto_region 4 with fail
 obtain ⟨W3,hW3⟩:∃W3,W3=W2.alloc (.cells #[.int .i64 0,.string ⟨#[]⟩,.int .i64 0,.float .f64 0,.bool false,.slice none 0 0] 26):=⟨_,rfl⟩;have f:Below w.heap.size w W3:=u.out.trans (by rw [hW3];exact ((Below.refl _ _).alloc (Nat.le_refl _) _).mono u.out.size);have d:Below W1.heap.size W1 W3:=m.out.trans (by rw [hW3];exact ((Below.refl _ _).alloc (Nat.le_refl _) _).mono m.out.size);rw [<-hW3];have c0:=Aa f _ _ h.out.c0;have c1:=Aa f _ _ h.out.c1;have kr:=h.out.blk.of_block (f.block _ hM);have f0:=kr.frz 0 none;have f1:=kr.frz 1 none;have r3:W3.rangeAt w.heap.size 0 [.int .i64 0,.string ⟨#[]⟩,.int .i64 0,.float .f64 0,.bool false,.slice none 0 0]:=fun j y hj=>Aa d _ _ (r1.out j y hj);have k3:Blk W3 w.heap.size:=k1.out.of_block (d.block _ k1.out.lt);replace hW3:=Hd hW3;replace f:=Hd f;replace d:=Hd d;replace kr:=Hd kr;replace r3:=Hd r3;replace k3:=Hd k3
 go_upto_region 6 with fail
 obtain ⟨W5,hW5⟩:∃W5,W5=(W3.setCell ⟨r,0,none⟩ (.slice none 0 0)).setCell ⟨r,1,none⟩ (.int .i64 (q:Int)):=⟨_,rfl⟩;rw [<-hW5];have o:Fr (fun k=>k=r) W3 W5:=by rw [hW5];exact Fr.setCell (S:=fun k=>k=r) (Fr.setCell (S:=fun k=>k=r) (Fr.refl _ _) (fun _=>rfl) _) (fun _=>rfl) _
 have ab:¬w.heap.size=r:=by omega
 have d0:W5.cell? ⟨r,0,none⟩=some (.slice none 0 0):=by rw [hW5,Ac (by simp)];exact Ak c0
 have d1:W5.cell? ⟨r,1,none⟩=some (.int .i64 (q:Int)):=by rw [hW5];exact Ak (by rw [Ac (by simp)];exact c1)
 have ac:Blk W5 r:=by rw [hW5];exact (kr.out.setCell _ _).setCell _ _
 have r5:W5.rangeAt w.heap.size 0 [.int .i64 0,.string ⟨#[]⟩,.int .i64 0,.float .f64 0,.bool false,.slice none 0 0]:=fun j y hj=>o.cell (r3.out j y hj) ab;have k5:Blk W5 w.heap.size:=k3.out.fr o ab;have p:=Af (n:=6) r5 k5 rfl;have z:Fr (fun k=>k=r) w W5:=((Fr.of_below f.out).mono (fun i hi h=>absurd hi (Nat.not_lt_of_le h))).trans_new o (fun i hi e=>e);clear c0 c1 f0 f1;have l:Fr (fun k=>k=w.heap.size) W5 (W5.setCells w.heap.size 0 [.int .i64 0,.string ⟨#[]⟩,.int .i64 0,.float .f64 0,.bool false,.slice none 0 0]):=Fr.setCells (S:=fun k=>k=w.heap.size) (fun _=>rfl) _ _ _ (Fr.refl _ _);have g:=Hd (World.rangeAt_setCells_same _ _ _ [Value.int .i64 0,.string ⟨#[]⟩,.int .i64 0,.float .f64 0,.bool false,.slice none 0 0] p)
 have t:Fr (fun k=>k=r) w (W5.setCells w.heap.size 0 [.int .i64 0,.string ⟨#[]⟩,.int .i64 0,.float .f64 0,.bool false,.slice none 0 0]):=z.trans_new l (fun i hi e=>by omega);have aa:Rdr B (W5.setCells w.heap.size 0 [.int .i64 0,.string ⟨#[]⟩,.int .i64 0,.float .f64 0,.bool false,.slice none 0 0]) r (.slice none 0 0) ⟨#[]⟩ q:=
  ⟨l.cell d0 (by show ¬r=w.heap.size;omega),l.cell d1 (by show ¬r=w.heap.size;omega),ac.fr l (by omega),Buf.nil _ _,h.out.lt,Nat.le_trans h.out.le t.size⟩
 replace hW5:=Hd hW5;replace p:=Hd p;replace t:=Hd t;replace aa:=Hd aa;clear o d0 d1 ac r5 k5 z l;go_wp2_with (refine wpList_store_mid rfl 26 _ _ rfl w.heap.size 0 _ rfl rfl p.out Ad (one6 _ _ _ _ _ _ _ _) ?_)
 have e0:=g.out 0 _ rfl;have e1:=g.out 1 _ rfl;have e2:=g.out 2 _ rfl;have e3:=g.out 3 _ rfl;have e4:=g.out 4 _ rfl;have e5:=g.out 5 _ rfl;simp only [Nat.zero_add] at e0 e1 e2 e3 e4 e5;refine bodyPost_ret (v:=.tuple #[.agg F8.toArray,.bool false,.int .i64 (q:Int)]) (by simp [results,Tryz.results27,go_sem,e0,e1,e2,e3,e4,e5,F8]) rfl ?_;exact ⟨rfl,aa.out,t.out⟩
theorem bytes_from (a:Option Addr) (n c l:Nat) (h:l<=n) (W:World):(Instr.slice 27 (.slice a n c) (some (.int .i64 (l:Int))) none none).run Tryz.prog W=.ok (sliced a l n c 1) W:=by
 have hz:(sizeOf (Tryz.prog.elem 27)).run Tryz.prog W=.ok 1 W:=by kernel_rfl
 rw [run_slice_l W _ _ _ _ (by kernel_rfl) _ _ (by omega) (by omega),hz];rfl
theorem own_sliced {a:Option Addr} {l n c n' c' k:Nat} (h:(sliced a l n c 1).ownBlock=some k):(Value.slice a n' c').ownBlock=some k:=by
 unfold sliced at h;split at h
 ·cases a<;>exact h
 ·cases a with
  | none=>cases h
  | some ad=>
   have e:(ad.add (l * 1)).block=k:=by simpa [Value.ownBlock] using h
   have e2:(ad.add (l * 1)).block=ad.block:=by unfold Addr.add;split<;>rfl
   rw [e2] at e;show some ad.block=some k;rw [e]
theorem next_anyF {B r n c u ln rl:Nat} {a:Option Addr} {kd it:Int} {tx:ByteArray} {fl:Bool} {w:World} {s:ByteArray} {X:Option Addr->Nat->World->World->Prop} (h:Rdr B w r (.slice a n c) s 0) (hu:u<=s.size) (hbig:s.size<=1000000000)
  (hp:∀W,Below w.heap.size w W->Calls Tryz.prog 24 #[.slice a n c] W fun e w' => ∃la lc,e=.returned (.tuple #[.agg #[.int .i64 kd,.string tx,.int .i64 it,.float .f64 rl,.bool fl,.slice la ln lc],.int .i64 (u:Int),.int .i64 0])/\X la lc W w' /\ Below W.heap.size W w') :
  Calls Tryz.prog 27 #[.pointer (some ⟨r,0,none⟩)] w fun e w' => ∃la lc W1 W2,e=.returned (.tuple #[.agg #[.int .i64 kd,.string tx,.int .i64 it,.float .f64 rl,.bool fl,.slice la ln lc],.bool (decide (0<u)),.int .i64 0])/\X la lc W1 W2 /\
   w.heap.size<=W1.heap.size/\(∀a v,Bh W1.heap.size W2 a=some v->Bh w.heap.size w' a=some v)/\(∃v', Rdr B w' r v' (s.extract u s.size) 0/\∀k,v'.ownBlock=some k->(Value.slice a n c).ownBlock=some k)/\Fr (fun k=>k=r) w w' := by
 obtain ⟨hn,b⟩:=h.buf.drop hu;have aj:=bytes_from a n c u (by omega);obtain ⟨a', n', c', hsl⟩:∃a' n' c', sliced a u n c 1=.slice a' n' c' := ⟨_,_,_,rfl⟩;rw [hsl] at b aj;have z:∀k,(Value.slice a' n' c').ownBlock=some k->(Value.slice a n c).ownBlock=some k:=fun k hk=>own_sliced (by rw [hsl];exact hk);replace z:=Hd z;clear hsl;have hub:((0:Int)<(u:Int))=(0<u):=by simp
 have hus:(u:Int)<=1000000000:=by omega
 replace b:=Hd b;clear hn hbig hu;obtain ⟨W1,hW1⟩:∃W1,W1=w.alloc (.cells #[.int .i64 0,.string ⟨#[]⟩,.int .i64 0,.float .f64 0,.bool false,.slice none 0 0] 26):=⟨_,rfl⟩;have d:Below w.heap.size w W1:=by rw [hW1];exact (Below.refl _ _).alloc (Nat.le_refl _) _
 have r1:W1.rangeAt w.heap.size 0 [.int .i64 0,.string ⟨#[]⟩,.int .i64 0,.float .f64 0,.bool false,.slice none 0 0]:=by
  rw [hW1];intro j y hj;rw [Nat.zero_add,World.cell?_alloc_new];simpa using hj
 have k1:Blk W1 w.heap.size:=by rw [hW1];exact Blk.new _ _ _
 have c0:=Aa d _ _ h.c0;have c1:=Aa d _ _ h.c1;have hM:r<w.heap.size:=h.blk.lt;replace h:=Hd h;replace hW1:=Hd hW1;replace hp:=Hd hp;replace k1:=Hd k1;replace r1:=Hd r1
 go_enter Tryz.func27,Tryz.ntmps27
 go_upto_region 1 with fail
 rw [<-hW1.out];go_wp2_with fail
 refine (hp.out W1 d).mono ?_;rintro e W2 ⟨la,lc,rfl,hX,t⟩;have ad:=Hd (d.trans (t.mono d.size));have hv:=Hd (B5 W2 26 [.int .i64 kd,.string tx,.int .i64 it,.float .f64 rl,.bool fl,.slice la ln lc] rfl);have ak:=Hd (A4 W2 26);clear c0 c1;replace d:=Hd d;replace t:=Hd t;replace hX:=Hd hX;have f:True:=trivial;go_upto_region 4 with (have _t:=f;refine wpList_store_mid rfl 26 _ _ rfl W2.heap.size 0 _ rfl rfl ak.out Ad (one6 _ _ _ _ _ _ _ _) ?_;clear f _t)
 generalize (W2.alloc (.cells #[Value.int .i64 0,.string ⟨#[]⟩,.int .i64 0,.float .f64 0,.bool false,.slice none 0 0] 26)).setCells W2.heap.size 0 [Value.int .i64 kd,.string tx,.int .i64 it,.float .f64 rl,.bool fl,.slice la ln lc]=W3 at hv ⊢;obtain ⟨g,ai,ao⟩:=hv.out;have l:Below w.heap.size w W3:=ad.out.trans (g.mono ad.out.size);have p:Below W1.heap.size W1 W3:=t.out.trans (g.mono t.out.size);have c0:=Aa l _ _ h.out.c0;have c1:=Aa l _ _ h.out.c1;have kr:=h.out.blk.of_block (l.block _ hM);have f0:=kr.frz 0 none;have r3:W3.rangeAt w.heap.size 0 [.int .i64 0,.string ⟨#[]⟩,.int .i64 0,.float .f64 0,.bool false,.slice none 0 0]:=fun j y hj=>Aa p _ _ (r1.out j y hj);have k3:Blk W3 w.heap.size:=k1.out.of_block (p.block _ k1.out.lt);have hlt1:=k1.out.lt;have hle2:=t.out.size;have ap:=d.out.size;clear hv ak;replace l:=Hd l;replace p:=Hd p
 replace g:=Hd g;replace kr:=Hd kr;replace r3:=Hd r3;replace k3:=Hd k3;replace ai:=Hd ai;replace ao:=Hd ao;go_upto_region 8 with fail
 obtain ⟨W5,hW5⟩:∃W5,W5=W3.setCell ⟨r,0,none⟩ (.slice a' n' c'):=⟨_,rfl⟩;rw [<-hW5];have m:Fr (fun k=>k=r) W3 W5:=by rw [hW5];exact Fr.setCell (S:=fun k=>k=r) (Fr.refl _ _) (fun _=>rfl) _
 have al:¬w.heap.size=r:=by omega
 have d0:W5.cell? ⟨r,0,none⟩=some (.slice a' n' c'):=by rw [hW5];exact Ak c0
 have d1:W5.cell? ⟨r,1,none⟩=some (.int .i64 ((0:Nat):Int)):=hW5 ▸ (by rw [Ac (by simp)];exact c1);have am:Blk W5 r:=by rw [hW5];exact kr.out.setCell _ _
 have r5:W5.rangeAt w.heap.size 0 [.int .i64 0,.string ⟨#[]⟩,.int .i64 0,.float .f64 0,.bool false,.slice none 0 0]:=fun j y hj=>m.cell (r3.out j y hj) al;have k5:Blk W5 w.heap.size:=k3.out.fr m al;have ag:W5.rangeAt W2.heap.size 0 [.int .i64 kd,.string tx,.int .i64 it,.float .f64 rl,.bool fl,.slice la ln lc]:=fun j y hj=>m.cell (ai.out j y hj) (by show ¬W2.heap.size=r;omega);have ab:=Af (n:=6) r5 k5 rfl;have an:Buf B W5 (.slice a' n' c') (s.extract u s.size):=(b.out.fr ((Fr.of_below l.out).mono (T:=fun _=>False) (fun i hi h=>absurd hi (Nat.not_lt_of_le h))) (fun _ _ h=>h)).fr m (fun k hk e=>by have:=(b.out.block k hk).1;have:=h.out.lt;omega);have ae:Fr (fun k=>k=r) w W5:=((Fr.of_below l.out).mono (fun i hi h=>absurd hi (Nat.not_lt_of_le h))).trans_new m (fun i hi e=>e);clear c0 c1 f0
 have o:Fr (fun k=>k=w.heap.size) W5 (W5.setCells w.heap.size 0 [.int .i64 kd,.string tx,.int .i64 it,.float .f64 rl,.bool fl,.slice la ln lc]):=Fr.setCells (S:=fun k=>k=w.heap.size) (fun _=>rfl) _ _ _ (Fr.refl _ _);have q:=Hd (World.rangeAt_setCells_same _ _ _ [Value.int .i64 kd,.string tx,.int .i64 it,.float .f64 rl,.bool fl,.slice la ln lc] ab);have ac:Fr (fun k=>k=r) w (W5.setCells w.heap.size 0 [.int .i64 kd,.string tx,.int .i64 it,.float .f64 rl,.bool fl,.slice la ln lc]):=ae.trans_new o (fun i hi e=>by omega);have ah:Rdr B (W5.setCells w.heap.size 0 [.int .i64 kd,.string tx,.int .i64 it,.float .f64 rl,.bool fl,.slice la ln lc]) r (.slice a' n' c') (s.extract u s.size) 0:=
  ⟨o.cell d0 (by show ¬r=w.heap.size;omega),o.cell d1 (by show ¬r=w.heap.size;omega),am.fr o (by omega),an.fr o (fun k hk e=>by have:=(b.out.block k hk).2;omega),h.out.lt,Nat.le_trans h.out.le ac.size⟩
 have aa:∀a v,Bh W1.heap.size W2 a=some v->Bh w.heap.size (W5.setCells w.heap.size 0 [.int .i64 kd,.string tx,.int .i64 it,.float .f64 rl,.bool fl,.slice la ln lc]) a=some v:=fun a v hv=>by
  obtain ⟨h1,h2⟩:=Dw hv;unfold Bh;rw [if_neg (by omega)];exact o.cell (m.cell (Aa g.out _ _ h1) (by omega)) (by omega)
 replace hW5:=Hd hW5;replace ab:=Hd ab;replace ac:=Hd ac;replace ah:=Hd ah;replace ag:=Hd ag;replace aa:=Hd aa;clear m d0 d1 am r5 k5 ae o an;have f:True:=trivial;have af:True:=trivial
 go_wp2_with (first
  | (have _t:=f;refine wpList_load_mid rfl 26 _ rfl W2.heap.size 0 rfl _ _ ag.out Tryz.underlying26 rfl Ad ?_;clear f _t)
  | (have _t:=af;refine wpList_store_mid rfl 26 _ _ rfl w.heap.size 0 _ rfl rfl ab.out Ad (one6 _ _ _ _ _ _ _ _) ?_;clear af _t))
 have e0:=q.out 0 _ rfl;have e1:=q.out 1 _ rfl;have e2:=q.out 2 _ rfl;have e3:=q.out 3 _ rfl;have e4:=q.out 4 _ rfl;have e5:=q.out 5 _ rfl;simp only [Nat.zero_add] at e0 e1 e2 e3 e4 e5;refine bodyPost_ret (v:=.tuple #[.agg #[.int .i64 kd,.string tx,.int .i64 it,.float .f64 rl,.bool fl,.slice la ln lc],.bool (decide (0<u)),.int .i64 0]) (by simp [results,Tryz.results27,go_sem,e0,e1,e2,e3,e4,e5]) rfl ?_;exact ⟨la,lc,W1,W2,rfl,hX.out,ap,aa.out,⟨_,ah.out,z.out⟩,ac.out⟩
theorem Env.below {rp:Rp} {w w' : World} {s s' : ByteArray} (h:Env rp w s) (hb:Below w.heap.size w w'):Env rp w' s' :=
 ⟨h.nums.below hb,fun W hW t ht=>h.real W (hb.trans (hW.mono hb.size)) t ht⟩
theorem drop_list (s:ByteArray) (u:Nat):(s.extract u s.size).data.toList=s.data.toList.drop u:=by
 rw [ByteArray.data_extract,Array.toList_extract,List.extract_eq_take_drop,List.take_of_length_le];rw [List.length_drop,<-Ax];exact Nat.le_refl _
theorem parse_buf {rp:Rp} {B:Nat} {w:World} {v:Value} {s:ByteArray} (h:Buf B w v s) (hbig:s.size<=1000000000) (hE:Env rp w s) (hn:Dj rp 8 1 s.data.toList):Calls Tryz.prog 24 #[v] w (Fl (At rp 8 1 s.data.toList) w):=by
 rcases h with ⟨rfl,h0⟩ | ⟨b,o,cap,rfl,_,h2,h3,_,h5,_⟩
 ·have:s.data.toList=[]:=List.length_eq_zero_iff.1 (by rw [<-Ax];exact h0)
  rw [this];have e:At rp 8 1 []=.stop 0:=by rw [At];rfl
  rw [e];exact parse_nil w
 ·exact R2.parse_any h5 rfl h3 hbig hE h2 hn
theorem next_stop0F {rp:Rp} {B r:Nat} {w:World} {v:Value} {s:ByteArray} (h:Rdr B w r v s 0) (hbig:s.size<=1000000000) (hE:Env rp w s) (hn:Dj rp 8 1 s.data.toList) (hs:At rp 8 1 s.data.toList=.stop 0) :
  Calls Tryz.prog 27 #[.pointer (some ⟨r,0,none⟩)] w fun e w' => e=.returned (.tuple #[.agg F8.toArray,.bool false,.int .i64 0])/\(∃v', Rdr B w' r v' s 0/\∀k,v'.ownBlock=some k->v.ownBlock=some k)/\Fr (fun k=>k=r) w w' := by
 obtain ⟨a,c,hv,_⟩:=h.buf.shape;have b:=h.buf;rw [hv] at h b;refine (next_anyF (u:=0) (kd:=0) (tx:=⟨#[]⟩) (it:=0) (rl:=0) (fl:=false) (ln:=0) (X:=fun la lc _ _=>la=none/\lc=0) h (Nat.zero_le _) hbig fun W hW=>?_).mono ?_
 ·have hp:=parse_buf (rp:=rp) (b.below hW) hbig (hE.below hW) hn
  rw [hs] at hp;refine hp.mono ?_;rintro e w' ⟨rfl,hb⟩;exact ⟨none,0,rfl,⟨rfl,rfl⟩,hb⟩
 ·rintro e w' ⟨la,lc,W1,W2,rfl,⟨rfl,rfl⟩,_,_,⟨v', hr,d⟩,hf⟩
  have e0:s.extract 0 s.size=s:=by
   apply ByteArray.ext;apply Array.toList_inj.1;rw [drop_list];rfl
  rw [e0] at hr;exact ⟨rfl,⟨v', hr,by rw [hv];exact d⟩,hf⟩
theorem next_stop0 {rp:Rp} {B r:Nat} {w:World} {v:Value} {s:ByteArray} (h:Rdr B w r v s 0) (hbig:s.size<=1000000000) (hE:Env rp w s) (hn:Dj rp 8 1 s.data.toList) (hs:At rp 8 1 s.data.toList=.stop 0) :
  Calls Tryz.prog 27 #[.pointer (some ⟨r,0,none⟩)] w fun e w' => e=.returned (.tuple #[.agg F8.toArray,.bool false,.int .i64 0])/\(∃v', Rdr B w' r v' s 0)/\Fr (fun k=>k=r) w w' :=
 (next_stop0F h hbig hE hn hs).mono fun e w' ⟨h1,⟨v', h2,_⟩,h3⟩=>⟨h1,⟨v', h2⟩,h3⟩
theorem next_stopq {rp:Rp} {B r q:Nat} {w:World} {v:Value} {s:ByteArray} (h:Rdr B w r v s 0) (hq:q≠0) (hbig:s.size<=1000000000) (hE:Env rp w s) (hn:Dj rp 8 1 s.data.toList) (hs:At rp 8 1 s.data.toList=.stop q) :
  Calls Tryz.prog 27 #[.pointer (some ⟨r,0,none⟩)] w fun e w' => e=.returned (.tuple #[.agg F8.toArray,.bool false,.int .i64 (q:Int)])/\Rdr B w' r (.slice none 0 0) ⟨#[]⟩ q/\Fr (fun k=>k=r) w w' := by
 obtain ⟨a,c,hv,_⟩:=h.buf.shape;have b:=h.buf;rw [hv] at h b;refine next_bad h hq fun W hW=>?_;have hp:=parse_buf (rp:=rp) (b.below hW) hbig (hE.below hW) hn;rw [hs] at hp;exact hp
theorem next_gotF {rp:Rp} {B r u m:Nat} {w:World} {v:Value} {s:ByteArray} {x:V} (h:Rdr B w r v s 0) (hu:u<=s.size) (hu0:0<u) (hbig:s.size<=1000000000) (hE:Env rp w s) (hn:Dj rp 8 1 s.data.toList) (hs:At rp 8 1 s.data.toList=.got (x,u,m)) :
  Calls Tryz.prog 27 #[.pointer (some ⟨r,0,none⟩)] w fun e w' => ∃(ad:Option Addr) (ca:Nat),e=.returned (.tuple #[.agg #[.int .i64 x.kind,.string x.text,.int .i64 x.int,.float .f64 x.real,.bool x.flag,.slice ad x.list.length ca],.bool true,.int .i64 0]) /\
   RV (Bh w.heap.size w') (Ao x.kind x.text x.int x.real x.flag ad x.list.length ca) x/\(∃v', Rdr B w' r v' (s.extract u s.size) 0/\∀k,v'.ownBlock=some k->v.ownBlock=some k)/\Fr (fun k=>k=r) w w' := by
 obtain ⟨a,c,hv,_⟩:=h.buf.shape;have b:=h.buf;rw [hv] at h b;refine (next_anyF (u:=u) (kd:=x.kind) (tx:=x.text) (it:=x.int) (rl:=x.real) (fl:=x.flag) (ln:=x.list.length) (X:=fun la lc W W' => RV (Bh W.heap.size W') (Ao x.kind x.text x.int x.real x.flag la x.list.length lc) x) h hu hbig fun W hW=>?_).mono ?_
 ·have hp:=parse_buf (rp:=rp) (b.below hW) hbig (hE.below hW) hn
  rw [hs] at hp;refine hp.mono ?_;rintro e w' ⟨la,lc,rfl,d,hb⟩;exact ⟨la,lc,rfl,d,hb⟩
 ·rintro e w' ⟨la,lc,W1,W2,rfl,d,_,f,hr,hf⟩
  exact ⟨la,lc,by rw [decide_eq_true hu0],d.mono f,by rw [hv];exact hr,hf⟩
theorem next_got {rp:Rp} {B r u m:Nat} {w:World} {v:Value} {s:ByteArray} {x:V} (h:Rdr B w r v s 0) (hu:u<=s.size) (hu0:0<u) (hbig:s.size<=1000000000) (hE:Env rp w s) (hn:Dj rp 8 1 s.data.toList) (hs:At rp 8 1 s.data.toList=.got (x,u,m)) :
  Calls Tryz.prog 27 #[.pointer (some ⟨r,0,none⟩)] w fun e w' => ∃(ad:Option Addr) (ca:Nat),e=.returned (.tuple #[.agg #[.int .i64 x.kind,.string x.text,.int .i64 x.int,.float .f64 x.real,.bool x.flag,.slice ad x.list.length ca],.bool true,.int .i64 0]) /\
   RV (Bh w.heap.size w') (Ao x.kind x.text x.int x.real x.flag ad x.list.length ca) x/\(∃v', Rdr B w' r v' (s.extract u s.size) 0)/\Fr (fun k=>k=r) w w' :=
 (next_gotF h hu hu0 hbig hE hn hs).mono fun e w' ⟨ad,ca,h1,h2,⟨v', h3,_⟩,h4⟩=>⟨ad,ca,h1,h2,⟨v', h3⟩,h4⟩
def rp0:Rp:=⟨fun _=>none,fun _=>False⟩
theorem env0 {w:World} {s:ByteArray} (h:Nums w):Env rp0 w s:=⟨h,fun _ _ _ h=>h.elim⟩
theorem needH_ne {rp:Rp} {c:UInt8} {L:List UInt8} (h:Ab c≠7):needH rp (c :: L):=by
 intro c' L' t u e hk _;exact absurd (by rw [(List.cons.inj e).1];exact hk) h
theorem scan_stop {rp:Rp} {lv many:Nat} {c:UInt8} {L:List UInt8} {q:Nat} (hc:Ab c≠7) (h:A0 rp (c :: L)=.stop q):At rp lv many (c :: L)=.stop q/\Dj rp lv many (c :: L):=by
 cases lv with
 | zero=>exact ⟨by rw [At,h],needH_ne hc⟩
 | succ lv=>exact ⟨by rw [At,h],needH_ne hc,fun kd n u e=>by rw [h] at e;cases e⟩
theorem scan_leaf {rp:Rp} {lv many u:Nat} {c:UInt8} {L:List UInt8} {v:V} (hc:Ab c≠7) (h:A0 rp (c :: L)=.leaf v u):At rp lv many (c :: L)=.got (v,u,many)/\Dj rp lv many (c :: L):=by
 cases lv with
 | zero=>exact ⟨by rw [At,h],needH_ne hc⟩
 | succ lv=>exact ⟨by rw [At,h],needH_ne hc,fun kd n u e=>by rw [h] at e;cases e⟩
def t1:ByteArray:=⟨#[36,50,13,10,97]⟩
def t2:ByteArray:=⟨#[98,13,10]⟩
def t3:ByteArray:=⟨#[42,45,49,13,10,58,53]⟩
def t4:ByteArray:=⟨#[63]⟩
def t5:ByteArray:=⟨#[42,49,13,10]⟩
def t6:ByteArray:=⟨#[42,49,13,10,62,49,13,10]⟩
def t7:ByteArray:=⟨#[58,48,49,13,10]⟩
theorem sc1:At rp0 8 1 t1.data.toList=.stop 0/\Dj rp0 8 1 t1.data.toList:=scan_stop (by decide) (by kernel_rfl)
theorem sc12:At rp0 8 1 (t1++t2).data.toList=.got (Ar 4 ⟨#[97,98]⟩ 0 0 false,8,1)/\Dj rp0 8 1 (t1++t2).data.toList:=by
 have e:(t1++t2).data.toList=36 :: [50,13,10,97,98,13,10]:=by rw [ByteArray.data_append,Array.toList_append];rfl
 rw [e];exact scan_leaf (by decide) (by kernel_rfl)
