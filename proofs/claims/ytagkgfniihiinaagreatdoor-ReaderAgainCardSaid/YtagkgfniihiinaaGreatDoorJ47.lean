/- A buffer of bytes that begins anywhere in its block: cut at its head, and more bytes behind it (no program in sight). -/
import Derived.Test.YtagkgfniihiinaaGreatDoorJ52
import Derived.Lib.SlBytesRow
import Derived.Lib.AppendStr
import Derived.Deep.AppendSrc
import Derived.Test.YtagkgfniihiinaaGreatDoorJ71
import Derived.StillTailTactics
import Derived.Deep.MidRow
set_option linter.all false
namespace Go.Proofs.YtagkgfniihiinaaGreatDoor
open Go.RowKit
def Buf (B:Nat) (w:World) (v:Value) (s:ByteArray):Prop:=
 (v=.slice none 0 0/\s.size=0) \/
 ∃b o cap,v=.slice (some ⟨b,o,none⟩) s.size cap/\B<=b/\b<w.heap.size/\s.size<=cap/\cap<=maxLen/\Lib.Bytes w b o s/\∀j,s.size<=j->j<cap->(w.cell? ⟨b,o+j,none⟩).isSome=true/\w.frozen? ⟨b,o+j,none⟩=false
theorem Buf.nil (B:Nat) (w:World):Buf B w (.slice none 0 0) ⟨#[]⟩:=.inl ⟨rfl,rfl⟩
theorem Buf.block {B:Nat} {w:World} {v:Value} {s:ByteArray} (h:Buf B w v s):∀k,v.ownBlock=some k->B<=k/\k<w.heap.size:=by
 intro k hk;rcases h with ⟨rfl,_⟩ | ⟨b,o,cap,rfl,h1,h2,_⟩
 · cases hk
 · have:b=k:=by simpa [Value.ownBlock] using hk
   subst this;exact ⟨h1,h2⟩
theorem Buf.of_block {B:Nat} {w w' : World} {v:Value} {s:ByteArray} (h:Buf B w v s) (hs:w.heap.size<=w'.heap.size) (hb:∀k,v.ownBlock=some k->w'.heap[k]?=w.heap[k]?):Buf B w' v s:=by
 rcases h with h | ⟨b,o,cap,rfl,h1,h2,h3,h4,h5,h6⟩
 · exact .inl h
 · have e:=hb b rfl
   refine .inr ⟨b,o,cap,rfl,h1,Nat.lt_of_lt_of_le h2 hs,h3,h4,fun i hi=>?_,fun j a1 a2=>?_⟩
   · rw [World.cell?_of_block (w:=w) e];exact h5 i hi
   · rw [World.cell?_of_block (w:=w) e,World.frozen?_of_block (w:=w) e];exact h6 j a1 a2
theorem Buf.fr {B:Nat} {w w' : World} {v:Value} {s:ByteArray} {S:Nat->Prop} (h:Buf B w v s) (hf:Fr S w w') (hS:∀k,v.ownBlock=some k->¬S k):Buf B w' v s:=
 h.of_block hf.size fun k hk=>hf.block k (h.block k hk).2 (hS k hk)
theorem Buf.below {B:Nat} {w w' : World} {v:Value} {s:ByteArray} (h:Buf B w v s) (hb:Below w.heap.size w w'):Buf B w' v s:=
 h.of_block hb.size fun k hk=>hb.block k (h.block k hk).2
theorem Buf.shape {B:Nat} {w:World} {v:Value} {s:ByteArray} (h:Buf B w v s):∃a c,v=.slice a s.size c/\s.size<=c:=by
 rcases h with ⟨rfl,h0⟩ | ⟨b,o,cap,rfl,_,_,h3,_⟩
 · exact ⟨none,0,by rw [h0],by omega⟩
 · exact ⟨_,_,rfl,h3⟩
theorem Buf.drop {B:Nat} {w:World} {a:Option Addr} {n c:Nat} {s:ByteArray} (h:Buf B w (.slice a n c) s) {u:Nat} (hu:u<=s.size):n=s.size/\Buf B w (sliced a u n c 1) (s.extract u s.size):=by
 have hz:(s.extract u s.size).size=s.size - u:=by rw [ByteArray.size_extract];omega
 rcases h with ⟨h1,h0⟩ | ⟨b,o,cap,h0,h1,h2,h3,h4,h5,h6⟩
 · cases h1
   have:u=0:=by omega
   subst this;exact ⟨h0.symm,.inl ⟨by simp [sliced],by omega⟩⟩
 · cases h0
   refine ⟨rfl,?_⟩;by_cases hc:c=u
   · have:u=s.size:=by omega
     subst this;refine .inr ⟨b,o,0,by simp [sliced,hc,hz],h1,h2,by omega,Nat.zero_le _,fun i hi=>by omega,fun j _ hj=>by omega⟩
   · refine .inr ⟨b,o+u,c - u,?_,h1,h2,by omega,by omega,fun i hi=>?_,fun j a1 a2=>?_⟩
     · rw [hz]
       unfold sliced;rw [if_neg hc,Option.map_some,Nat.mul_one];congr 2;unfold Addr.add;split
       · rename_i h;subst h;rfl
       · rfl
     · have:=h5 (u+i) (by omega)
       rw [show o+u+i=o+(u+i) by omega,this];congr 3;exact congrArg UInt8.toNat (ByteArray.getElem_extract (by omega)).symm
     · have:=h6 (u+j) (by omega) (by omega)
       rw [show o+u+j=o+(u+j) by omega];exact this
theorem cells_at (t:ByteArray) (j:Nat) (h:j<t.size):(Lib.strCells t)[j]?=some (.int .u8 ((t[j]'h).toNat:Int)):=by
 rw [Lib.strCells,List.getElem?_map,Array.getElem?_toList,Array.getElem?_eq_getElem h];rfl
theorem bytes_cells {w:World} {b o:Nat} {s:ByteArray} (h:∀j,j<s.size->w.cell? ⟨b,o+j,none⟩=(Lib.strCells s)[j]?):Lib.Bytes w b o s:=fun i hi=>by rw [h i hi,cells_at s i hi]
theorem cells_of_bytes {w:World} {b o:Nat} {s:ByteArray} (h:Lib.Bytes w b o s):∀j u,(Lib.strCells s)[j]?=some u->w.cell? ⟨b,o+j,none⟩=some u:=fun j u hu=>by
 have hj:j<s.size:=by
   have:=(List.getElem?_eq_some_iff.1 hu).1;rwa [Lib.strCells_length] at this
 rw [h j hj,<-cells_at s j hj];exact hu
theorem add_zr (b o j:Nat):(⟨b,o,none⟩:Addr).add j=⟨b,o+j,none⟩:=by
 unfold Addr.add;split
 · rename_i h;subst h;rfl
 · rfl
theorem os_sets (w:World) (g o:Nat) (vs:List Value):Fr (fun k=>k=g) w (w.setCells g o vs):=Fr.setCells (S:=fun k=>k=g) (fun _=>rfl) _ _ _ (Fr.refl _ _)
theorem append_none {P:Program} (w:World) (t tx ty e:TypeId) (i:TypeInfo) (ht:P.underlying t=some (.slice e)) (hi:P.info? e=some i) (base:Option Addr) (sLen sCap:Nat) (hle:sLen<=sCap) (x:Value) (hs:Src P i.size tx x 0 [] w) :
   (Builtin.append_ #[t,tx] ty #[.slice base sLen sCap,x]).run P w=.ok (.slice base sLen sCap) w:=by
 have hcells:=hs.cells
 rcases hs.kind with ⟨e', hk⟩ | hk<;>cases base<;>simp [Builtin.append_,run_underlying ht,run_underlying hk,sizeOf,typeInfo,hi,hs.len,hle,hcells,storeCells]
theorem run_append_buf {P:Program} {B:Nat} {w:World} {v x:Value} {s t:ByteArray} (ty:TypeId) {tt tx e:TypeId} (E:Elem P tt e 1 1) (h:Buf B w v s) (hs:Src P 1 tx x t.size (Lib.strCells t) w)
   (hn:s.size+t.size<=140737488355328) (hB:B<=w.heap.size) :
   ∃v' w', (Builtin.append_ #[tt,tx] ty #[v,x]).run P w=.ok v' w' /\ Buf B w' v' (s++t)/\Fr (fun k=>v.ownBlock=some k) w w' /\ ∀k,v'.ownBlock=some k->v.ownBlock=some k\/w.heap.size<=k:=by
 obtain ⟨ht,_,_,i,z,hi,hz,hi1,hi2,hz1⟩:=E
 have hsz:(s++t).size=s.size+t.size:=ByteArray.size_append
 have grow:∀(a:Option Addr) (c:Nat),v=.slice a s.size c->c<s.size+t.size->(Builtin.firstCells 1 s.size (.slice a s.size c)).run P w.drew=.ok (Lib.strCells s).toArray w.drew ->
     ∃v' w', (Builtin.append_ #[tt,tx] ty #[v,x]).run P w=.ok v' w' /\ Buf B w' v' (s++t)/\Fr (fun k=>v.ownBlock=some k) w w' /\ ∀k,v'.ownBlock=some k->v.ownBlock=some k\/w.heap.size<=k:=by
   rintro a c rfl hg hold
   rw [<-hi1] at hold hs
   have hrun:=run_append_grow_src (P:=P) w tt tx ty e i z ht hi hz a s.size c (Lib.strCells s) hold x t.size (Lib.strCells t) hs hg (by omega) (growslice_fits hg (by rw [hi2,Nat.mul_one];exact hn))
   have hge:=grownCap_ge w (s.size+t.size) c e
   have hcm:=grownCap_le_maxLen w (s.size+t.size) c e (by unfold maxLen;omega)
   have hL:(Lib.strCells s++Lib.strCells t).length=s.size+t.size:=by rw [List.length_append,Lib.strCells_length,Lib.strCells_length]
   refine ⟨_,_,hrun,.inr ⟨w.heap.size,0,_,by rw [hsz],hB,by simp,by omega,hcm,bytes_cells fun j hj=>?_,fun j a1 a2=>?_⟩,⟨rfl,rfl,rfl,by simp,fun k hk _=>Below.heap_alloc w.drew _ k hk⟩,fun k hk=>.inr ?_⟩
   · rw [Nat.zero_add]
     have e1:=World.cell?_alloc_new w.drew ((Lib.strCells s++Lib.strCells t).toArray++Builtin.zeroCells z.cells (grownCap w (s.size+t.size) c e - (s.size+t.size))) e j;refine Eq.trans e1 ?_;rw [Array.getElem?_append_left (by rw [List.size_toArray,hL];omega),List.getElem?_toArray,Lib.strCells,Lib.strCells,Lib.strCells,ByteArray.data_append,Array.toList_append,List.map_append]
   · rw [Nat.zero_add]
     have e1:=World.cell?_alloc_new w.drew ((Lib.strCells s++Lib.strCells t).toArray++Builtin.zeroCells z.cells (grownCap w (s.size+t.size) c e - (s.size+t.size))) e j;refine ⟨?_,World.frozen?_alloc_new w.drew _ _ j⟩;have hsz2:((Lib.strCells s++Lib.strCells t).toArray++Builtin.zeroCells z.cells (grownCap w (s.size+t.size) c e - (s.size+t.size))).size=grownCap w (s.size+t.size) c e:=by
       rw [Array.size_append,List.size_toArray,hL,size_zeroCells,hz1,Nat.mul_one];omega
     rw [show w.heap.size=w.drew.heap.size from rfl,e1,Array.getElem?_eq_getElem (by rw [hsz2];exact a2)];rfl
   · have:w.heap.size=k:=by simpa [Value.ownBlock] using hk
     omega
 rcases h with ⟨rfl,h0⟩ | ⟨b,o,cap,rfl,h1,h2,h3,h4,h5,h6⟩
 · have hse:s=⟨#[]⟩:=ByteArray.ext (Array.eq_empty_of_size_eq_zero h0)
   subst hse;by_cases ht0:t.size=0
   · have hte:t=⟨#[]⟩:=ByteArray.ext (Array.eq_empty_of_size_eq_zero ht0)
     subst hte;refine ⟨.slice none 0 0,w,?_,.inl ⟨rfl,rfl⟩,Fr.refl _ _,fun k hk=>by cases hk⟩;rw [<-hi1] at hs;exact append_none (P:=P) w tt tx ty e i ht hi none 0 0 (Nat.le_refl _) x hs
   · exact grow none 0 rfl (by omega) (run_firstCells_none w.drew 1 0 0 0)
 · by_cases hroom:s.size+t.size<=cap
   · rw [<-hi1] at hs
     have hl:(Lib.strCells t).length=t.size:=Lib.strCells_length t
     have hr:=run_append_room_src (P:=P) w tt tx ty e i ht hi b o s.size cap x t.size (Lib.strCells t) hs hroom
       (fun j hj=>by rw [hi1,Nat.mul_one,Nat.add_assoc];exact (h6 (s.size+j) (by omega) (by omega)).1)
       (fun j hj=>by rw [hi1,Nat.mul_one,Nat.add_assoc];exact (h6 (s.size+j) (by omega) (by omega)).2)
     rw [hi1,Nat.mul_one] at hr;have hfr:=os_sets w b (o+s.size) (Lib.strCells t);refine ⟨_,_,hr,.inr ⟨b,o,cap,by rw [hsz],h1,Nat.lt_of_lt_of_le h2 hfr.size,by omega,h4,bytes_cells fun j hj=>?_,fun j a1 a2=>⟨?_,?_⟩⟩,hfr.mono (fun k _ e=>by rw [e];rfl),fun k hk=>.inl hk⟩
     · rw [hsz] at hj
       rw [show Lib.strCells (s++t)=Lib.strCells s++Lib.strCells t by rw [Lib.strCells,Lib.strCells,Lib.strCells,ByteArray.data_append,Array.toList_append,List.map_append]];by_cases hjs:j<s.size
       · rw [World.cell?_setCells_out b _ _ _ _ (fun _ _=>.inl (by show o+j<o+s.size;omega)),List.getElem?_append_left (by rw [Lib.strCells_length];exact hjs),h5 j hjs,cells_at s j hjs]
       · have:=World.cell?_setCells_in b (Lib.strCells t) (o+s.size) w (fun q hq=>by rw [Nat.add_assoc];exact (h6 (s.size+q) (by omega) (by omega)).1) (j - s.size) (by omega)
         rw [show o+s.size+(j - s.size)=o+j by omega] at this;rw [this,List.getElem?_append_right (by rw [Lib.strCells_length];omega),Lib.strCells_length s,List.getElem?_eq_getElem]
     · rw [hsz] at a1
       rw [World.cell?_setCells_out b _ _ _ _ (fun _ _=>.inr (by show o+s.size+(Lib.strCells t).length<=o+j;omega))];exact (h6 j (by omega) a2).1
     · rw [World.frozen?_setCells];exact (h6 j (by omega) a2).2
   · exact grow (some ⟨b,o,none⟩) cap rfl (by omega) (run_firstCells_some w.drew 1 s.size ⟨b,o,none⟩ s.size cap (Lib.strCells s) (by rw [Lib.strCells_length,Nat.mul_one]) (fun j u hu=>by
       rw [add_zr];exact cells_of_bytes h5 j u hu))
structure Rdr (B:Nat) (w:World) (r:Nat) (v:Value) (s:ByteArray) (q:Nat):Prop where
 c0:w.cell? ⟨r,0,none⟩=some v
 c1:w.cell? ⟨r,1,none⟩=some (.int .i64 (q:Int))
 blk:Blk w r
 buf:Buf B w v s
 lt:r<B
 le:B<=w.heap.size
theorem Rdr.below {B r q:Nat} {w w' : World} {v:Value} {s:ByteArray} (h:Rdr B w r v s q) (hb:Below w.heap.size w w'):Rdr B w' r v s q:=
 ⟨Aa hb _ _ h.c0,Aa hb _ _ h.c1,h.blk.of_block (hb.block _ h.blk.lt),h.buf.below hb,h.lt,Nat.le_trans h.le hb.size⟩
def zero6:List Value:=[.int .i64 0,.string ⟨#[]⟩,.int .i64 0,.float .f64 0,.bool false,.slice none 0 0]
theorem eByteB:Elem Tryz.prog 27 5 1 1:=elem_of Tryz.underlying27 (by decide) (by decide) (by kernel_rfl)
theorem append_bufF {ops:Array Oper} {rest:List Oper} {o:Oper} {a:Act} {Q:Exit->Act->World->Prop} {sl x:Operand} {B:Nat} {w:World} {v xv:Value} {s t:ByteArray} (hgd:o.guard=none)
   (ho:o.op=.call { callee:=.builtin .append,args:=#[sl,x],argTypes:=#[27,27] }) (hs:a.eval sl=v) (hR:Buf B w v s) (hx:a.eval x=xv) (hsrc:Src Tryz.prog 1 27 xv t.size (Lib.strCells t) w) (hn:s.size+t.size<=140737488355328) (hB:B<=w.heap.size)
   (h:∀v' w', Buf B w' v' (s++t)->Fr (fun k=>v.ownBlock=some k) w w' -> (∀k,v'.ownBlock=some k->v.ownBlock=some k\/w.heap.size<=k)->wpList Tryz.prog ops Q rest (a.put o.dst v') w'):wpList Tryz.prog ops Q (o :: rest) a w:=by
 refine wpList_plain hgd fun K hK=>?_
 obtain ⟨v', w', hrun,h1,h2,h3⟩:=run_append_buf (P:=Tryz.prog) o.type eByteB hR hsrc hn hB
 unfold Oper.wp execOp
 simp only [ho,resolve,invoke,builtin,Sem.run_bind,Sem.run_pure,Result.andThen_ok,List.map_toArray,List.map_cons,List.map_nil,hs,hx,hrun]
 exact hK _ _ (h v' w' h1 h2 h3)
set_option maxRecDepth 100000 in
set_option maxHeartbeats 1600000 in
theorem feed_okF {B r:Nat} {w:World} {v x:Value} {s t:ByteArray} (h:Rdr B w r v s 0) (hx:Src Tryz.prog 1 27 x t.size (Lib.strCells t) w) (hn:s.size+t.size<=1000000000) :
   Calls Tryz.prog 26 #[.pointer (some ⟨r,0,none⟩),x] w fun e w' => ∃v', e=.returned (.tuple #[])/\Rdr B w' r v' (s++t) 0/\Fr (fun k=>k=r\/v.ownBlock=some k) w w' /\ ∀k,v'.ownBlock=some k->v.ownBlock=some k\/w.heap.size<=k:=by
 have c0:=h.c0
 have c1:=h.c1
 have hbuf:=h.buf
 have hle:=h.le
 have hn2:s.size+t.size<=140737488355328:=by omega
 replace hbuf:=Hd hbuf
 replace hx:=Hd hx
 replace h:=Hd h
 go_enter Tryz.func26,Tryz.ntmps26
 go_wp2_with (at_builtin;refine append_bufF rfl rfl rfl hbuf.out rfl hx.out hn2 hle ?_)
 intro v' w1 hb1 hf1 hn1
 have hob:¬v.ownBlock=some r:=fun e=>by have:=(hbuf.out.block r e).1;have:=h.out.lt;omega
 obtain ⟨a', c', rfl,hac⟩:=hb1.shape
 obtain ⟨N,hN⟩:∃N,N=(s++t).size:=⟨_,rfl⟩
 rw [<-hN] at hb1 hn1 ⊢
 replace hN:=Hd hN
 have hlt:=h.out.lt
 have c0:=hf1.cell h.out.c0 hob
 have c1:=hf1.cell h.out.c1 hob
 have hk:=h.out.blk.fr hf1 hob
 have f0:=hk.frz 0 none
 have hb1' := Hd hb1
 replace hk:=Hd hk
 have hff:=hf1.mono (T:=fun k=>k=r\/v.ownBlock=some k) (fun i _ e=>.inr e)
 replace hff:=Hd hff
 have hsz:=hf1.size
 replace hn1:=Hd hn1
 clear hf1 hb1 hac
 go_wp2_with fail
 go_end0
 have hfr:Fr (fun k=>k=r) w1 (w1.setCell ⟨r,0,none⟩ (.slice a' N c')):=Fr.setCell (S:=fun k=>k=r) (Fr.refl _ _) (fun _=>rfl) _
 refine ⟨_,rfl,⟨Al c0,by rw [Ab (by simp)];exact c1,hk.out.setCell _ _,hb1'.out.fr hfr (fun k hk e=>by have:=(hb1'.out.block k hk).1;omega),hlt,by have:=hfr.size;omega⟩,hff.out.trans (hfr.mono fun i _ e=>.inl e),hn1.out⟩
theorem feed_ok {B r:Nat} {w:World} {v x:Value} {s t:ByteArray} (h:Rdr B w r v s 0) (hx:Src Tryz.prog 1 27 x t.size (Lib.strCells t) w) (hn:s.size+t.size<=1000000000) :
   Calls Tryz.prog 26 #[.pointer (some ⟨r,0,none⟩),x] w fun e w' => ∃v', e=.returned (.tuple #[])/\Rdr B w' r v' (s++t) 0/\Fr (fun k=>k=r\/B<=k) w w' :=
 (feed_okF h hx hn).mono fun e w' ⟨v', h1,h2,h3,_⟩=>⟨v', h1,h2,h3.mono fun k _ hk=>hk.imp id fun e=>(h.buf.block k e).1⟩
namespace R2
end R2
theorem Eg (W:World) (t:TypeId):(W.alloc (.cells #[.int .i64 0,.string ⟨#[]⟩,.int .i64 0,.float .f64 0,.bool false,.slice none 0 0] t)).there W.heap.size 0 6:=
 Ao (n:=6) (cs:=[.int .i64 0,.string ⟨#[]⟩,.int .i64 0,.float .f64 0,.bool false,.slice none 0 0]) (fun j y hj=>by rw [Nat.zero_add,World.cell?_alloc_new];simpa using hj) (Blk.new _ _ _) rfl
theorem new_val (W:World) (t:TypeId) (c:List Value) (hc:c.length=6):Below W.heap.size W ((W.alloc (.cells #[.int .i64 0,.string ⟨#[]⟩,.int .i64 0,.float .f64 0,.bool false,.slice none 0 0] t)).setCells W.heap.size 0 c) /\
   ((W.alloc (.cells #[.int .i64 0,.string ⟨#[]⟩,.int .i64 0,.float .f64 0,.bool false,.slice none 0 0] t)).setCells W.heap.size 0 c).rangeAt W.heap.size 0 c/\Blk ((W.alloc (.cells #[.int .i64 0,.string ⟨#[]⟩,.int .i64 0,.float .f64 0,.bool false,.slice none 0 0] t)).setCells W.heap.size 0 c) W.heap.size:=by
 have hb:Below W.heap.size W (W.alloc (.cells #[.int .i64 0,.string ⟨#[]⟩,.int .i64 0,.float .f64 0,.bool false,.slice none 0 0] t)):=(Below.refl _ _).alloc (Nat.le_refl _) _
 refine ⟨hb.trans ((Fr.setCells (S:=fun k=>k=W.heap.size) (fun _=>rfl) _ _ _ (Fr.refl _ _)).below hb.size (fun i hi e=>by omega)),World.rangeAt_setCells_same _ _ _ _ (by rw [hc];exact Eg W t),Blk.setCells _ _ _ (Blk.new _ _ _)⟩
theorem bytes_from (a:Option Addr) (n c l:Nat) (h:l<=n) (W:World):(Instr.slice 27 (.slice a n c) (some (.int .i64 (l:Int))) none none).run Tryz.prog W=.ok (sliced a l n c 1) W:=by
 have hz:(sizeOf (Tryz.prog.elem 27)).run Tryz.prog W=.ok 1 W:=by kernel_rfl
 rw [run_slice_l W _ _ _ _ (by kernel_rfl) _ _ (by omega) (by omega),hz];rfl
theorem own_sliced {a:Option Addr} {l n c n' c' k:Nat} (h:(sliced a l n c 1).ownBlock=some k):(Value.slice a n' c').ownBlock=some k:=by
 unfold sliced at h;split at h
 · cases a<;>exact h
 · cases a with
   | none=>cases h
   | some ad=>
     have e:(ad.add (l * 1)).block=k:=by simpa [Value.ownBlock] using h
     have e2:(ad.add (l * 1)).block=ad.block:=by unfold Addr.add;split<;>rfl
     rw [e2] at e;show some ad.block=some k;rw [e]
set_option maxRecDepth 100000 in
set_option maxHeartbeats 3200000 in
theorem next_anyF {B r n c u ln rl:Nat} {a:Option Addr} {kd it:Int} {tx:ByteArray} {fl:Bool} {w:World} {s:ByteArray} {X:Option Addr->Nat->World->World->Prop} (h:Rdr B w r (.slice a n c) s 0) (hu:u<=s.size) (hbig:s.size<=1000000000)
   (hp:∀W,Below w.heap.size w W->Calls Tryz.prog 24 #[.slice a n c] W fun e w' => ∃la lc,e=.returned (.tuple #[.agg #[.int .i64 kd,.string tx,.int .i64 it,.float .f64 rl,.bool fl,.slice la ln lc],.int .i64 (u:Int),.int .i64 0])/\X la lc W w' /\ Below W.heap.size W w') :
   Calls Tryz.prog 27 #[.pointer (some ⟨r,0,none⟩)] w fun e w' => ∃la lc W1 W2,e=.returned (.tuple #[.agg #[.int .i64 kd,.string tx,.int .i64 it,.float .f64 rl,.bool fl,.slice la ln lc],.bool (decide (0<u)),.int .i64 0])/\X la lc W1 W2 /\
     w.heap.size<=W1.heap.size/\(∀a v,Bf W1.heap.size W2 a=some v->Bf w.heap.size w' a=some v)/\(∃v', Rdr B w' r v' (s.extract u s.size) 0/\∀k,v'.ownBlock=some k->(Value.slice a n c).ownBlock=some k)/\Fr (fun k=>k=r) w w' := by
 obtain ⟨hn,hdrop⟩:=h.buf.drop hu
 have hsl0:=bytes_from a n c u (by omega)
 obtain ⟨a', n', c', hsl⟩:∃a' n' c', sliced a u n c 1=.slice a' n' c' := ⟨_,_,_,rfl⟩
 rw [hsl] at hdrop hsl0
 have hsub:∀k,(Value.slice a' n' c').ownBlock=some k->(Value.slice a n c).ownBlock=some k:=fun k hk=>own_sliced (by rw [hsl];exact hk)
 replace hsub:=Hd hsub
 clear hsl
 have hub:((0:Int)<(u:Int))=(0<u):=by simp
 have hus:(u:Int)<=1000000000:=by omega
 replace hdrop:=Hd hdrop
 clear hn hbig hu
 obtain ⟨W1,hW1⟩:∃W1,W1=w.alloc (.cells #[.int .i64 0,.string ⟨#[]⟩,.int .i64 0,.float .f64 0,.bool false,.slice none 0 0] 26):=⟨_,rfl⟩
 have hb1:Below w.heap.size w W1:=by rw [hW1];exact (Below.refl _ _).alloc (Nat.le_refl _) _
 have r1:W1.rangeAt w.heap.size 0 [.int .i64 0,.string ⟨#[]⟩,.int .i64 0,.float .f64 0,.bool false,.slice none 0 0]:=by
   rw [hW1];intro j y hj;rw [Nat.zero_add,World.cell?_alloc_new];simpa using hj
 have k1:Blk W1 w.heap.size:=by rw [hW1];exact Blk.new _ _ _
 have c0:=Aa hb1 _ _ h.c0
 have c1:=Aa hb1 _ _ h.c1
 have hM:r<w.heap.size:=h.blk.lt
 replace h:=Hd h
 replace hW1:=Hd hW1
 replace hp:=Hd hp
 replace k1:=Hd k1
 replace r1:=Hd r1
 go_enter Tryz.func27,Tryz.ntmps27
 go_upto_region 1 with fail
 rw [<-hW1.out]
 go_wp2_with fail
 refine (hp.out W1 hb1).mono ?_
 rintro e W2 ⟨la,lc,rfl,hX,hb2⟩
 have hb12:=hb1.trans (hb2.mono hb1.size)
 have hv:=new_val W2 26 [.int .i64 kd,.string tx,.int .i64 it,.float .f64 rl,.bool fl,.slice la ln lc] rfl
 have hth:=Eg W2 26
 clear c0 c1
 replace hv:=Hd hv
 replace hth:=Hd hth
 replace hb1:=Hd hb1
 replace hb2:=Hd hb2
 replace hb12:=Hd hb12
 replace hX:=Hd hX
 have tok1:True:=trivial
 go_upto_region 4 with (have _t:=tok1;refine wpList_store_mid rfl 26 _ _ rfl W2.heap.size 0 _ rfl rfl hth.out Ai (one6 _ _ _ _ _ _ _ _) ?_;clear tok1 _t)
 generalize (W2.alloc (.cells #[Value.int .i64 0,.string ⟨#[]⟩,.int .i64 0,.float .f64 0,.bool false,.slice none 0 0] 26)).setCells W2.heap.size 0 [Value.int .i64 kd,.string tx,.int .i64 it,.float .f64 rl,.bool fl,.slice la ln lc]=W3 at hv ⊢
 obtain ⟨hb23,rv3,kv3⟩:=hv.out
 have hb3:Below w.heap.size w W3:=hb12.out.trans (hb23.mono hb12.out.size)
 have hb13:Below W1.heap.size W1 W3:=hb2.out.trans (hb23.mono hb2.out.size)
 have c0:=Aa hb3 _ _ h.out.c0
 have c1:=Aa hb3 _ _ h.out.c1
 have kr:=h.out.blk.of_block (hb3.block _ hM)
 have f0:=kr.frz 0 none
 have r3:W3.rangeAt w.heap.size 0 [.int .i64 0,.string ⟨#[]⟩,.int .i64 0,.float .f64 0,.bool false,.slice none 0 0]:=fun j y hj=>Aa hb13 _ _ (r1.out j y hj)
 have k3:Blk W3 w.heap.size:=k1.out.of_block (hb13.block _ k1.out.lt)
 have hlt1:=k1.out.lt
 have hle2:=hb2.out.size
 have hw1:=hb1.out.size
 clear hv hth
 replace hb3:=Hd hb3
 replace hb13:=Hd hb13
 replace hb23:=Hd hb23
 replace kr:=Hd kr
 replace r3:=Hd r3
 replace k3:=Hd k3
 replace rv3:=Hd rv3
 replace kv3:=Hd kv3
 go_upto_region 8 with fail
 obtain ⟨W5,hW5⟩:∃W5,W5=W3.setCell ⟨r,0,none⟩ (.slice a' n' c'):=⟨_,rfl⟩
 rw [<-hW5]
 have hf5:Fr (fun k=>k=r) W3 W5:=by rw [hW5];exact Fr.setCell (S:=fun k=>k=r) (Fr.refl _ _) (fun _=>rfl) _
 have hMr:¬w.heap.size=r:=by omega
 have d0:W5.cell? ⟨r,0,none⟩=some (.slice a' n' c'):=by rw [hW5];exact Al c0
 have d1:W5.cell? ⟨r,1,none⟩=some (.int .i64 ((0:Nat):Int)):=hW5 ▸ (by rw [Ab (by simp)];exact c1)
 have kr5:Blk W5 r:=by rw [hW5];exact kr.out.setCell _ _
 have r5:W5.rangeAt w.heap.size 0 [.int .i64 0,.string ⟨#[]⟩,.int .i64 0,.float .f64 0,.bool false,.slice none 0 0]:=fun j y hj=>hf5.cell (r3.out j y hj) hMr
 have k5:Blk W5 w.heap.size:=k3.out.fr hf5 hMr
 have rv5:W5.rangeAt W2.heap.size 0 [.int .i64 kd,.string tx,.int .i64 it,.float .f64 rl,.bool fl,.slice la ln lc]:=fun j y hj=>hf5.cell (rv3.out j y hj) (by show ¬W2.heap.size=r;omega)
 have ht5:=Ao (n:=6) r5 k5 rfl
 have hb5:Buf B W5 (.slice a' n' c') (s.extract u s.size):=(hdrop.out.fr ((Fr.of_below hb3.out).mono (T:=fun _=>False) (fun i hi h=>absurd hi (Nat.not_lt_of_le h))) (fun _ _ h=>h)).fr hf5 (fun k hk e=>by have:=(hdrop.out.block k hk).1;have:=h.out.lt;omega)
 have hf06:Fr (fun k=>k=r) w W5:=((Fr.of_below hb3.out).mono (fun i hi h=>absurd hi (Nat.not_lt_of_le h))).trans_new hf5 (fun i hi e=>e)
 clear c0 c1 f0
 have hfw:Fr (fun k=>k=w.heap.size) W5 (W5.setCells w.heap.size 0 [.int .i64 kd,.string tx,.int .i64 it,.float .f64 rl,.bool fl,.slice la ln lc]):=Fr.setCells (S:=fun k=>k=w.heap.size) (fun _=>rfl) _ _ _ (Fr.refl _ _)
 have hrs:=World.rangeAt_setCells_same _ _ _ [Value.int .i64 kd,.string tx,.int .i64 it,.float .f64 rl,.bool fl,.slice la ln lc] ht5
 have hff:Fr (fun k=>k=r) w (W5.setCells w.heap.size 0 [.int .i64 kd,.string tx,.int .i64 it,.float .f64 rl,.bool fl,.slice la ln lc]):=hf06.trans_new hfw (fun i hi e=>by omega)
 have hrd:Rdr B (W5.setCells w.heap.size 0 [.int .i64 kd,.string tx,.int .i64 it,.float .f64 rl,.bool fl,.slice la ln lc]) r (.slice a' n' c') (s.extract u s.size) 0:=
   ⟨hfw.cell d0 (by show ¬r=w.heap.size;omega),hfw.cell d1 (by show ¬r=w.heap.size;omega),kr5.fr hfw (by omega),hb5.fr hfw (fun k hk e=>by have:=(hdrop.out.block k hk).2;omega),h.out.lt,Nat.le_trans h.out.le hff.size⟩
 have hnew:∀a v,Bf W1.heap.size W2 a=some v->Bf w.heap.size (W5.setCells w.heap.size 0 [.int .i64 kd,.string tx,.int .i64 it,.float .f64 rl,.bool fl,.slice la ln lc]) a=some v:=fun a v hv=>by
   obtain ⟨h1,h2⟩:=Dt hv;unfold Bf;rw [if_neg (by omega)];exact hfw.cell (hf5.cell (Aa hb23.out _ _ h1) (by omega)) (by omega)
 replace hW5:=Hd hW5
 replace ht5:=Hd ht5
 replace hrs:=Hd hrs
 replace hff:=Hd hff
 replace hrd:=Hd hrd
 replace rv5:=Hd rv5
 replace hnew:=Hd hnew
 clear hf5 d0 d1 kr5 r5 k5 hf06 hfw hb5
 have tok1:True:=trivial
 have tok2:True:=trivial
 go_wp2_with (first
   | (have _t:=tok1;refine wpList_load_mid rfl 26 _ rfl W2.heap.size 0 rfl _ _ rv5.out Tryz.underlying26 rfl Ai ?_;clear tok1 _t)
   | (have _t:=tok2;refine wpList_store_mid rfl 26 _ _ rfl w.heap.size 0 _ rfl rfl ht5.out Ai (one6 _ _ _ _ _ _ _ _) ?_;clear tok2 _t))
 have e0:=hrs.out 0 _ rfl
 have e1:=hrs.out 1 _ rfl
 have e2:=hrs.out 2 _ rfl
 have e3:=hrs.out 3 _ rfl
 have e4:=hrs.out 4 _ rfl
 have e5:=hrs.out 5 _ rfl
 simp only [Nat.zero_add] at e0 e1 e2 e3 e4 e5
 refine bodyPost_ret (v:=.tuple #[.agg #[.int .i64 kd,.string tx,.int .i64 it,.float .f64 rl,.bool fl,.slice la ln lc],.bool (decide (0<u)),.int .i64 0]) (by simp [results,Tryz.results27,go_sem,e0,e1,e2,e3,e4,e5]) rfl ?_
 exact ⟨la,lc,W1,W2,rfl,hX.out,hw1,hnew.out,⟨_,hrd.out,hsub.out⟩,hff.out⟩
end Go.Proofs.YtagkgfniihiinaaGreatDoor
