/- The client: one that was just made. -/
import Derived.Test.YtfaihaoajdcjbaaGreatDoorJ9
import Derived.Test.YtfaihaoajdcjbaaGreatDoorJ29
set_option linter.all false
namespace Go.Proofs.YtfaihaoajdcjbaaGreatDoor
open Go.RowKit
def ownM (a b c:Nat):Nat->Nat:=fun k=>if k<a then 0 else if k<b then 1 else if k<c then 8 else if k=c then 3 else if k=c+1 then 4 else if k=c+2 then 2 else 0
theorem cli_made {w w1 w2 W:World} {nb:Nat} {fp:List Nat} {ns:NS} {pv:Value} {m:Md} (tr tc:TypeId) (hN:Av.Near w1 nb fp [] ns) (hb1:Below w.heap.size w w1) (hfp:∀b∈fp,w.heap.size<=b)
   (hpre:Reads w2 1 pv m.prefixes.length (m.prefixes.map Value.string)) (hpb:∀b,pv.ownBlock=some b->w1.heap.size<=b/\b<w2.heap.size) (hb2:Below w1.heap.size w1 w2) (hNu:Nums w)
   (hW:W=((w2.alloc (.cells #[.slice none 0 0,.int .i64 0] tr)).alloc (.cells #[.slice none 0 0,.int .i64 0] tr)).alloc (.cells #[P0 nb,.bool m.on,.bool m.bcast,.bool m.optin,.bool m.optout,.bool m.noloop,.int .i64 m.redirect,pv,P0 w2.heap.size,P0 (w2.heap.size+1),.slice none 0 0,.slice none 0 0,.slice none 0 0,.int .i64 0,.bool false] tc)) :
   ∃ow,Cli ow W (w2.heap.size+2) ⟨ns,m,⟨#[]⟩,[],[],0,false,⟨#[]⟩,⟨#[]⟩⟩/\(∀k,k<w.heap.size->ow k=0)/\Below w.heap.size w W:=by
 obtain ⟨A,hA⟩:∃A,A=w2.alloc (.cells #[.slice none 0 0,.int .i64 0] tr):=⟨_,rfl⟩;obtain ⟨B,hB⟩:∃B,B=A.alloc (.cells #[.slice none 0 0,.int .i64 0] tr):=⟨_,rfl⟩;rw [<-hA,<-hB] at hW;have hbA:Below w2.heap.size w2 A:=by rw [hA];exact (Below.refl _ _).alloc (Nat.le_refl _) _
 have hbB:Below A.heap.size A B:=by rw [hB];exact (Below.refl _ _).alloc (Nat.le_refl _) _
 have hbW:Below B.heap.size B W:=by rw [hW];exact (Below.refl _ _).alloc (Nat.le_refl _) _
 have sA:A.heap.size=w2.heap.size+1:=by rw [hA];simp
 have sB:B.heap.size=w2.heap.size+2:=by rw [hB];simp [sA]
 have sW:W.heap.size=w2.heap.size+3:=by rw [hW];simp [sB]
 have s1:=hb1.size;have s2:=hb2.size;have hAW:=hbB.trans (hbW.mono hbB.size);have h2W:=hbA.trans (hAW.mono hbA.size);have h1W:=hb2.trans (h2W.mono hb2.size);have h0W:=hb1.trans (h1W.mono hb1.size);have hfl:=hN.lt;have cell:∀(i:Nat) (u:Value),(#[P0 nb,.bool m.on,.bool m.bcast,.bool m.optin,.bool m.optout,.bool m.noloop,.int .i64 m.redirect,pv,P0 w2.heap.size,P0 (w2.heap.size+1),.slice none 0 0,.slice none 0 0,.slice none 0 0,.int .i64 0,.bool false]:Array Value)[i]?=some u->W.cell? ⟨w2.heap.size+2,i,none⟩=some u:=fun i u hu=>by
   rw [hW,<-sB,World.cell?_alloc_new];exact hu
 have rA:Rdr (w2.heap.size+1) W w2.heap.size (.slice none 0 0) ⟨#[]⟩ 0:=by
   have h:Rdr (w2.heap.size+1) A w2.heap.size (.slice none 0 0) ⟨#[]⟩ 0:=by
     rw [hA];exact ⟨by rw [World.cell?_alloc_new];rfl,by rw [World.cell?_alloc_new];rfl,Blk.new _ _ _,Buf.nil _ _,by omega,by simp⟩
   exact h.below hAW
 have rB:Rdr (w2.heap.size+1+1) W (w2.heap.size+1) (.slice none 0 0) ⟨#[]⟩ 0:=by
   have h:Rdr (A.heap.size+1) B A.heap.size (.slice none 0 0) ⟨#[]⟩ 0:=by
     rw [hB];exact ⟨by rw [World.cell?_alloc_new];rfl,by rw [World.cell?_alloc_new];rfl,Blk.new _ _ _,Buf.nil _ _,by omega,by simp⟩
   rw [sA] at h;exact h.below hbW
 have hno:∀b,(Value.slice none 0 0).ownBlock=some b->False:=fun b e=>by cases e
 refine ⟨ownM w.heap.size w1.heap.size w2.heap.size,⟨⟨nb,fp,w2.heap.size,w2.heap.size+1,.slice none 0 0,.slice none 0 0,.slice none 0 0,.slice none 0 0,.slice none 0 0,pv,[],0,0⟩,[],Cells.of_row fun i u hu=>cell i u (by rw [<-List.getElem?_toArray] at hu;exact hu),?_,rfl,rfl⟩,fun k hk=>by simp [ownM,hk],h0W⟩;refine ⟨?_,?_,rA,rB,Buf.nil _ _,BufK.nil _ _ _,BufK.nil _ _ _,rfl,hpre.below h2W,fun b hb=>?_,fun b hb=>?_,?_,?_,fun b hb=>(hno b hb).elim,?_,fun b hb=>(hno b hb).elim,fun b hb=>(hno b hb).elim,fun b hb=>(hno b hb).elim,fun b hb=>(hno b hb).elim,fun b hb=>?_,fun b hb=>(by cases hb),fun b hb=>(by cases hb),fun k hk=>?_,⟨w,hNu,h0W,fun k hk=>by simp [ownM,hk]⟩⟩
 · rw [hW,<-sB];exact Blk.new _ _ _
 · refine hN.move (av' := CAt.av ⟨nb,fp,w2.heap.size,w2.heap.size+1,.slice none 0 0,.slice none 0 0,.slice none 0 0,.slice none 0 0,.slice none 0 0,pv,[],0,0⟩ (w2.heap.size+2)) ((Fr.of_below h1W).mono (fun k h1 h2=>absurd h1 (Nat.not_lt_of_le h2))) (fun b _ hm=>by cases hm) (fun b hb=>.inr ?_) (fun b hb=>?_)
   · rcases CAt.mem_av.1 hb with e | e | e | e | e | e | e | e | e
     · rw [e];omega
     · rw [e];exact s2
     · rw [e];show _<=w2.heap.size+1;omega
     all_goals first | exact (hno b e).elim | cases e
   · rcases CAt.mem_av.1 hb with e | e | e | e | e | e | e | e | e
     · rw [e];omega
     · rw [e];show w2.heap.size<_;omega
     · rw [e];show w2.heap.size+1<_;omega
     all_goals first | exact (hno b e).elim | cases e
 · have:=hpb b hb;omega
 · have h1:=hfl b hb
   have h2:=hfp b hb;rw [ownM,if_neg (by omega),if_pos h1]
 · rw [ownM,if_neg (by omega),if_neg (by omega),if_neg (by omega),if_neg (by omega),if_neg (by omega),if_pos rfl]
 · show ownM _ _ _ w2.heap.size=3
   rw [ownM,if_neg (by omega),if_neg (by omega),if_neg (by omega),if_pos rfl]
 · show ownM _ _ _ (w2.heap.size+1)=4
   rw [ownM,if_neg (by omega),if_neg (by omega),if_neg (by omega),if_neg (by omega),if_pos rfl]
 · have:=hpb b hb
   rw [ownM,if_neg (by omega),if_neg (by omega),if_pos (by omega)]
 · rw [ownM,if_neg (by omega),if_neg (by omega),if_neg (by omega),if_neg (by omega),if_neg (by omega),if_neg (by omega)]
def PRok (l:List ByteArray):Prop:=∀(i:Nat) (hi:i<l.length),l[i].size<=512/\∀(_:0<i),Op.bytesLess (l[i - 1]'(by omega)).toList l[i].toList=true/\Lib.hasPrefix l[i].data.toList (l[i - 1]'(by omega)).data.toList=false
set_option maxRecDepth 100000 in
set_option maxHeartbeats 1600000 in
theorem pre_any {w:World} {pa:Option Addr} {n pc:Nat} {l:List ByteArray} (hx:Reads w 1 (.slice pa n pc) n (l.map Value.string)) (hn:n<=32) (hn1:1<=n) (hp:PRok l) :
   Calls Tryz.prog 50 #[.slice pa n pc] w fun e w' => e=.returned (.bool true)/\Below w.heap.size w w' := by
 have hll:l.length=n:=by have:=hx.len.2;simpa using this
 replace hx:=Hd hx;replace hp:=Hd hp;replace hll:=Hd hll
 go_enter Tryz.func50,Tryz.ntmps50
 go_wp2_with fail
 go_loopw [7] (fun i wr=>∃j:Nat,j<=n/\i=.int .i64 (j:Int)/\Below w.heap.size w wr) (fun i _=>n - (intOf i).toNat)
 case atStart=>exact ⟨0,Nat.zero_le _,rfl,Below.refl _ _⟩
 case round=>
   obtain ⟨j,hj,rfl,hb⟩:=hrel;by_cases hlt:j<n
   · have hlti:(j:Int)<n:=by omega
     have hjl:j<l.length:=by have:=hll.out;omega
     obtain ⟨b,o,he,hc⟩:=(hx.out.below hb).at (j:=j) (by simpa using hjl);cases he
     have hc0:=hc j (.string l[j]) (by rw [List.getElem?_map,List.getElem?_eq_getElem hjl];rfl);have hpj:=hp.out j hjl;obtain ⟨t,ht⟩:∃t,t=l[j]:=⟨_,rfl⟩;rw [<-ht] at hc0 hpj;have hts:¬((512:Int)<(t.size:Int)):=by have:=hpj.1;omega
     by_cases hj0:j=0
     · subst hj0
       rw [Nat.add_zero] at hc0;replace ht:=Hd ht;replace hb:=Hd hb;clear hc hpj;go_wp2_with fail
       go_roundw
       case rel=>exact ⟨1,by omega,by first | rfl | go_num,hb.out⟩
       case measure=>simp [intOf];omega
     · have hj1:j - 1<l.length:=by omega
       have hc1:=hc (j - 1) (.string l[j - 1]) (by rw [List.getElem?_map,List.getElem?_eq_getElem hj1];rfl);have hpp:=hpj.2 (by omega);obtain ⟨q,hq⟩:∃q,q=l[j - 1]:=⟨_,rfl⟩;rw [<-hq] at hc1 hpp;have hw1:IntKind.i64.wrap ((j:Int) - 1)=((j - 1:Nat):Int):=by rw [IntWalk.i64_in _ (by omega)];omega
       have hw2:IntKind.i64.wrap ((j:Int)+1)=((j+1:Nat):Int):=by rw [IntWalk.i64_in _ (by omega)];rfl
       have hj0i:(0:Int)<(j:Int):=by omega
       have hbl:=hpp.1;have hpf:=Tryz.strings_HasPrefix t q wr;rw [hpp.2] at hpf;clear hc hpj hpp;replace ht:=Hd ht;replace hq:=Hd hq;replace hb:=Hd hb;replace hpf:=Hd hpf;go_wp2_with fail
       refine hpf.out.mono ?_;rintro e w' ⟨rfl,hww⟩;obtain rfl:=hww.symm;clear hww;go_wp2_with fail
       go_roundw
       case rel=>exact ⟨j+1,by omega,by first | rfl | go_num,hb.out⟩
       case measure=>simp [intOf];omega
   · obtain rfl:j=n:=by omega
     have hn32:(j:Int)<=32:=by omega
     have hn1i:(1:Int)<=(j:Int):=by omega
     replace hb:=Hd hb;go_wp2_with fail
     go_ret;exact ⟨rfl,hb.out⟩
structure Md.good (m:Md):Prop where
 on:m.on=true
 r0:0<=m.redirect
 r1:m.redirect<=1000000000
 opt:m.optin=false
 bo:m.bcast=true->m.optout=false
 no:m.bcast=false->m.prefixes=[]
 pre:m.bcast=true->PRok m.prefixes/\1<=m.prefixes.length/\m.prefixes.length<=32
set_option maxRecDepth 100000 in
set_option maxHeartbeats 1600000 in
theorem mright_any {w:World} {pa:Option Addr} {n pc:Nat} {m:Md} (hg:m.good) (hx:Reads w 1 (.slice pa n pc) n (m.prefixes.map Value.string)) :
   Calls Tryz.prog 27 #[.agg #[.bool m.on,.bool m.bcast,.bool m.optin,.bool m.optout,.bool m.noloop,.int .i64 m.redirect,.slice pa n pc]] w fun e w' => e=.returned (.bool true)/\Below w.heap.size w w' := by
 have hll:m.prefixes.length=n:=by have:=hx.len.2;simpa using this
 obtain ⟨on,bcast,optin,optout,noloop,redirect,prefixes⟩:=m;obtain ⟨h1,r0,r1,h4,bo,no,pre⟩:=hg;simp only at h1 r0 r1 h4 bo no pre hll hx ⊢;subst h1;subst h4;obtain ⟨W,hW⟩:∃W,W=w.alloc (.cells #[.bool true,.bool bcast,.bool false,.bool optout,.bool noloop,.int .i64 redirect,.slice pa n pc] 24):=⟨_,rfl⟩;have hb:Below w.heap.size w W:=by rw [hW];exact (Below.refl _ _).alloc (Nat.le_refl _) _
 have hxW:=hx.below hb;have hr0:¬(redirect<0):=by omega
 have hr1:¬(1000000000<redirect):=by omega
 replace hx:=Hd hx;replace hb:=Hd hb;replace pre:=Hd pre;replace no:=Hd no;cases bcast with
 | false=>
   have hn0:n=0:=by rw [<-hll,no.out rfl];rfl
   subst hn0;clear hll hxW;replace hW:=Hd hW
   go_enter Tryz.func27,Tryz.ntmps27
   go_wp2_with fail
   go_ret;rw [<-hW.out];exact ⟨rfl,hb.out⟩
 | true=>
   have ho:=bo rfl;subst ho;have hp:=Hd (pre_any hxW (by have:=(pre.out rfl).2.2;omega) (by have:=(pre.out rfl).2.1;omega) (pre.out rfl).1);clear hll hxW bo;replace hW:=Hd hW
   go_enter Tryz.func27,Tryz.ntmps27
   go_wp2_with fail
   rw [<-hW.out];refine hp.out.mono ?_;rintro e w' ⟨rfl,hb2⟩;have hbf:=Hd (hb.out.trans (hb2.mono hb.out.size));clear hb2;go_wp2_with fail
   go_ret;exact ⟨rfl,hbf.out⟩
end Go.Proofs.YtfaihaoajdcjbaaGreatDoor
