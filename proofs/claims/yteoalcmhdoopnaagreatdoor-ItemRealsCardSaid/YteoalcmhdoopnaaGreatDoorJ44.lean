/- internal/strconv.rightShift. -/
import Derived.Test.YteoalcmhdoopnaaGreatDoorJ46
import Derived.Test.YteoalcmhdoopnaaGreatDoorJ23
namespace Go.Proofs.YteoalcmhdoopnaaGreatDoor
open Go.RowKit
theorem Gb {k:Nat}:∀{g n f:Nat},TailI k g n->g<=f->B4 k f n=B4 k g n
 | 0,n,f,h,_=>by rw [h.zero rfl,Dl,Dl]
 | g+1,n,0,_,h=>absurd h (by omega)
 | g+1,n,f+1,h,hf=>by
   by_cases h0:n=0
   · rw [h0,Dl,Dl]
   · rw [Ey h0,Ey h0,Gb h.next (by omega)]
theorem mask_mod {k x:Nat} (hk:k<=60) (hx:x<18446744073709551616):bits .and .u64 (x:Int) ((2 ^ k - 1:Nat):Int)=((x % 2 ^ k:Nat):Int):=by
 have h1:2 ^ k<=2 ^ 60:=Nat.pow_le_pow_right (by decide) hk;have h2:(2:Nat) ^ 60=1152921504606846976:=by decide
 have:=Aw (x:=x) (y:=2 ^ k - 1) hx (by omega);rw [Nat.and_two_pow_sub_one_eq_mod] at this;exact this
set_option maxRecDepth 100000 in
set_option maxHeartbeats 6400000 in
theorem right_any' {w:World} {b k:Nat} {d:Dec} {ng:Bool} (h:Dm w b d ng) (hg:d.Good) (hk1:1<=k) (hk:k<=60) (hp0:-1000000<=d.dp) (hp1:d.dp<=1000000) :
   Calls Tryz.prog 144 #[.pointer (some ⟨b,0,none⟩),.int .u64 (k:Int)] w fun e w' => e=.returned (.tuple #[])/\Dm w' b (rsD k d) ng/\Fr (fun k=>k=b) w w' := by
 obtain ⟨f,hD,hrow⟩:=h
 obtain ⟨_,_,gd3,gd4,gd5,gd6,gd7,c1,l1,c1', l1', gh,_,gh1,gh2,_⟩:=rs_good hg hk1 hk
 obtain ⟨K,hK⟩:∃K,K=2 ^ k:=⟨_,rfl⟩
 have hK2:2<=K:=by
   have:2 ^ 1<=2 ^ k:=Nat.pow_le_pow_right (by decide) hk1;rw [hK];exact this
 have hK9:K<=1152921504606846976:=by
   have:2 ^ k<=2 ^ 60:=Nat.pow_le_pow_right (by decide) hk;rw [hK];exact this
 have hKi:(2:Int) ^ k=(K:Int):=by rw [hK];simp
 have hn8:=hg.len
 have hgd:=hg.dig
 have hki:(k:Int)<=60:=by omega
 have hk64:(k:Int)<64:=by omega
 have hk0:(0:Int)<=(k:Int):=by omega
 have c0:=hD.nd
 have cp:=hD.pt
 obtain ⟨nd,hnd⟩:∃nd,nd=d.L.length:=⟨_,rfl⟩
 rw [<-hnd] at hD c0 hrow hn8
 have hnd1:1<=nd:=by rw [hnd,gh];simp
 obtain ⟨r0,hr0⟩:∃r0,r0=(rsP k d).2.1+(rsF k d).2:=⟨_,rfl⟩
 obtain ⟨N0,hN0⟩:∃N0,N0=(rsF k d).1:=⟨_,rfl⟩
 rw [<-hr0] at gd3 gd4
 rw [<-hN0,<-hK] at gd6 gd7
 have hr01:1<=r0:=Nat.le_trans (De (Nat.two_pow_pos k)).1 gd3
 have hr09:r0<=20:=by
   have:Lib.nDigits (2 ^ k)<=19:=by
     refine Cg (Nat.two_pow_pos k) ?_;rw [<-hK];have:(1152921504606846976:Nat)<10 ^ 19:=by decide
     omega
   omega
 have hat:∀i (hi:i<d.L.length),f i=d.L[i]:=fun i hi=>row_at (by rw [<-hnd];exact hrow) hi
 replace hat:=Hd hat
 replace hD:=Hd hD
 replace hrow:=Hd hrow
 replace hgd:=Hd hgd
 replace hg:=Hd hg
 replace hnd:=Hd hnd
 replace hr0:=Hd hr0
 replace hN0:=Hd hN0
 replace hK:=Hd hK
 replace gh:=Hd gh
 clear gd3 gd4 gd5
 go_enter Tryz.func144,Tryz.ntmps144
 go_upto_block 0 with fail
 go_cut [4,6] from 14 to 48 (fun s4 s6 wx=>s4=.int .i64 (r0:Int)/\s6=.int .u64 (N0:Int)/\wx=w/\d.L.drop r0=(rsP k d).2.2)
 case first=>
   go_wp2_with fail
   go_loop [4,6] (fun s4 s6=>∃j N:Nat,j<=nd/\s4=.int .i64 (j:Int)/\s6=.int .u64 (N:Int)/\(j=0/\N=0\/0<N)/\N<10 * K/\rsP k d=((At k N (d.L.drop j)).1,j+(At k N (d.L.drop j)).2.1,(At k N (d.L.drop j)).2.2)) (fun s4 _=>nd+1 - (intOf s4).toNat)
   case atStart=>exact ⟨0,0,Nat.zero_le _,rfl,rfl,.inl ⟨rfl,rfl⟩,by omega,by unfold rsP;simp⟩
   case round=>
     obtain ⟨j,N,hj,rfl,rfl,hpos,hlt,hP⟩:=hrel;have hdiv:(N:Int) / (K:Int)=((N / K:Nat):Int):=by simp
     by_cases hst:N / K=0
     · have hdiv0:(N:Int) / (K:Int)=0:=by rw [hdiv,hst];rfl
       have hNK:N<K:=by
         rcases Nat.lt_or_ge N K with h9 | h9
         · exact h9
         · have:=Nat.div_pos h9 (by omega);omega
       rw [hK.out] at hst;clear hdiv;by_cases hjn:j<nd
       · have hjL:j<d.L.length:=by rw [<-hnd.out];exact hjn
         have hjni:(j:Int)<(nd:Int):=by omega
         obtain ⟨c,hc⟩:∃c,c=d.L[j]:=⟨_,rfl⟩;have hcd:isD c=true:=by rw [hc];exact hgd.out _ (List.getElem_mem hjL)
         have hc9:=D8 hcd;have hct48:48<=c.toNat/\c.toNat<=57:=by unfold isD at hcd;simpa using hcd
         have hcell:=hD.out.dig j (by omega);rw [hat.out j hjL,<-hc] at hcell;rw [List.drop_eq_getElem_cons hjL,<-hc,pick_more hst] at hP;dsimp only at hP;obtain ⟨dd,hdd⟩:∃dd,dd=dv c:=⟨_,rfl⟩;rw [<-hdd] at hP hc9;have hcd2:(N:Int) * 10+(c.toNat:Int) - 48=((N * 10+dd:Nat):Int):=by rw [hdd];unfold dv;omega
         obtain ⟨N', hN'⟩:∃N', N' = N * 10+dd:=⟨_,rfl⟩;rw [<-hN'] at hP hcd2;have hpos' : 0<N' := by
           rcases hpos with ⟨e1,e2⟩ | e
           · have h1:=List.getElem?_eq_getElem hjL
             rw [<-hc] at h1;rw [e1,gh.out] at h1;have h2:c1=c:=Option.some.inj h1;rw [hN', hdd,<-h2];omega
           · omega
         have hP2:rsP k d=((At k N' (d.L.drop (j+1))).1,(j+1)+(At k N' (d.L.drop (j+1))).2.1,(At k N' (d.L.drop (j+1))).2.2):=by
           rw [hP];congr 2;omega
         replace hP:=Hd hP;replace hP2:=Hd hP2;replace hdd:=Hd hdd;have hN9:N' < 10 * K:=by omega
         replace hN' := Hd hN';replace hc:=Hd hc;replace hst:=Hd hst;have hj8:(j:Int)<800:=by omega
         clear hpos hcd;go_wp2_with fail
         go_round
         case rel=>exact ⟨j+1,N', by omega,by go_num,rfl,.inr hpos', hN9,hP2.out⟩
         case measure=>simp [intOf];omega
       · have hjn' : j=nd:=by omega
         have hpos' : 0<N:=by omega
         have hdr:d.L.drop j=[]:=List.drop_eq_nil_of_le (by rw [<-hnd.out];omega);rw [hdr] at hP;have hP1:rsP k d=(N,j,[]):=hP;have hFd:rsF k d=B1 k 20 N:=by unfold rsF;rw [hP1]
         have hjge:(nd:Int)<=(j:Int):=by omega
         have hN0' : ((N:Int) == 0)=false:=by simp;omega
         have hten:2 ^ k<=N * 10 ^ 20:=ten_fill hk hpos';replace hten:=Hd hten;replace hP:=Hd hP;replace hP1:=Hd hP1;replace hFd:=Hd hFd;replace hdr:=Hd hdr;replace hst:=Hd hst;replace hjn' := Hd hjn';clear hpos;go_wp2_with fail
         go_loop [4,6] (fun s4 s6=>∃i M fu:Nat,i+fu=20/\s4=.int .i64 ((j+i:Nat):Int)/\s6=.int .u64 (M:Int)/\0<M/\M<10 * K/\2 ^ k<=M * 10 ^ fu/\rsF k d=((B1 k fu M).1,i+(B1 k fu M).2)) (fun s4 _=>nd+30 - (intOf s4).toNat)
         case atStart=>exact ⟨0,N,20,rfl,rfl,rfl,hpos', hlt,hten.out,by rw [hFd.out];simp⟩
         case round=>
           obtain ⟨i,M,fu,hifu,rfl,rfl,hM,hM9,hM2,hF⟩:=hrel;have hdiv:(M:Int) / (K:Int)=((M / K:Nat):Int):=by simp
           have hjn9:=hjn'.out;by_cases hs2:M / K=0
           · have hd0:(M:Int) / (K:Int)=0:=by rw [hdiv,hs2];rfl
             have hMK:M<K:=by
               rcases Nat.lt_or_ge M K with h9 | h9
               · exact h9
               · have:=Nat.div_pos h9 (by omega);omega
             rw [hK.out] at hs2;rcases fu with _ | fu
             · exfalso
               rw [Nat.pow_zero,Nat.mul_one,<-hK.out] at hM2;omega
             · rw [fill_more hs2] at hF
               dsimp only at hF;have hM2' : 2 ^ k<=M * 10 * 10 ^ fu:=by
                 rw [Nat.pow_succ,Nat.mul_comm (10 ^ fu),<-Nat.mul_assoc] at hM2;exact hM2
               have hF' : rsF k d=((B1 k fu (M * 10)).1,(i+1)+(B1 k fu (M * 10)).2):=by rw [hF];congr 1;omega
               replace hF:=Hd hF;replace hF' := Hd hF';replace hM2:=Hd hM2;replace hM2' := Hd hM2';replace hs2:=Hd hs2;replace hjn9:=Hd hjn9;clear hdiv;go_wp2_with fail
               go_round
               case rel=>exact ⟨i+1,M * 10,fu,by omega,by go_num,by go_num,by omega,by omega,hM2'.out,hF'.out⟩
               case measure=>have:=hjn9.out;simp [intOf];omega
           · have hdn:((M:Int) / (K:Int) == 0)=false:=by rw [hdiv];simp;omega
             have hs2' := hs2;rw [hK.out] at hs2';rw [fill_stop hs2'] at hF;dsimp only at hF;have e1:r0=j+i:=by rw [hr0.out,hF,hP1.out];rfl
             have e2:N0=M:=by rw [hN0.out,hF]
             have e3:d.L.drop r0=(rsP k d).2.2:=by rw [hP1.out,e1,<-List.drop_drop,hdr.out];simp
             replace hF:=Hd hF;replace e1:=Hd e1;replace e2:=Hd e2;replace e3:=Hd e3;replace hM2:=Hd hM2;replace hjn9:=Hd hjn9;clear hdiv hs2';go_wp2_with fail
             go_meet
             exact ⟨by rw [e1.out];simp,by rw [e2.out],rfl,e3.out⟩
     · have hdivn:((N:Int) / (K:Int) == 0)=false:=by rw [hdiv];simp;omega
       have hst' := hst;rw [hK.out] at hst';rw [pick_stop hst'] at hP;have hF:rsF k d=(N,0):=by unfold rsF;rw [hP];exact fill_stop hst'
       have e1:r0=j:=by rw [hr0.out,hF,hP];rfl
       have e2:N0=N:=by rw [hN0.out,hF]
       have e3:d.L.drop r0=(rsP k d).2.2:=by rw [hP,e1]
       replace hP:=Hd hP;replace hF:=Hd hF;replace e1:=Hd e1;replace e2:=Hd e2;replace e3:=Hd e3;clear hdiv hst' hpos;go_wp2_with fail
       go_meet
       exact ⟨by rw [e1.out],by rw [e2.out],rfl,e3.out⟩
 case rest=>
   obtain ⟨rfl,rfl,hww,hdrop⟩:=hcut;obtain rfl:=hww.symm;clear hww gh gh1 gh2;obtain ⟨dq,hdq⟩:∃dq:Int,dq=d.dp - ((r0:Int) - 1):=⟨_,rfl⟩;have hdq2:d.dp - ((r0:Int) - 1)=dq:=hdq.symm;have hdq9:-2000000<=dq/\dq<=2000000:=by omega
   obtain ⟨M,hM⟩:∃M,M=K - 1:=⟨_,rfl⟩;have hMi:(K:Int) - 1=(M:Int):=by omega
   have hmask:∀x:Nat,x<18446744073709551616->bits .and .u64 (x:Int) (M:Int)=((x % K:Nat):Int):=fun x hx=>by
     have:=mask_mod hk hx;rw [<-hK.out] at this;rw [hM];exact this
   have hrsO:rsO k d=(outR k N0 (d.L.drop r0)).1++B4 k (k+2) (outR k N0 (d.L.drop r0)).2:=by unfold rsO;rw [<-hN0.out,hdrop]
   have z1:=hD.out.blk.frz 801 none;have hD1:=hD.out.setP dq;have hF1:Fr (fun k=>k=b) w (w.setCell ⟨b,801,none⟩ (.int .i64 dq)):=Fr.setCell (S:=fun k=>k=b) (Fr.refl _ _) (fun _=>rfl) _;replace hdq:=Hd hdq;replace hM:=Hd hM;replace hmask:=Hd hmask;replace hrsO:=Hd hrsO;replace hD1:=Hd hD1;replace hF1:=Hd hF1;replace hdrop:=Hd hdrop;go_wp2_with fail
   go_loopw [4,5,6] (fun s4 s5 s6 wr=>∃p r N:Nat,s4=.int .i64 (r:Int)/\s5=.int .i64 (p:Int)/\s6=.int .u64 (N:Int)/\p<r/\N<10 * K/\(r<=nd\/r<=20)/\(p=0\/p<nd) /\
       ∃g P,P.length=p/\row g p=P/\(∀i,p<=i->g i=f i)/\rsO k d=P++(outR k N (d.L.drop r)).1++B4 k (k+2) (outR k N (d.L.drop r)).2/\DM wr b g nd dq ng d.tr/\Fr (fun k=>k=b) w wr) (fun s4 _ _ _=>nd - (intOf s4).toNat)
   case atStart=>exact ⟨0,r0,N0,rfl,rfl,rfl,by omega,gd7,.inr hr09,.inl rfl,f,[],rfl,rfl,fun _ _=>rfl,by rw [hrsO.out];rfl,hD1.out,hF1.out⟩
   case round=>
     obtain ⟨p,r,N,rfl,rfl,rfl,hpr,hN9,hr9,hp9,g,P,hPl,hrowP,hrest,hO,hDM,hF⟩:=hrel;clear hD1 hF1 hrsO;have c0:=hDM.nd;by_cases hrn:r<nd
     · have hrL:r<d.L.length:=by rw [<-hnd.out];exact hrn
       have hrni:(r:Int)<(nd:Int):=by omega
       have hr8:(r:Int)<800:=by omega
       have hp8:(p:Int)<800:=by omega
       obtain ⟨c,hc⟩:∃c,c=d.L[r]:=⟨_,rfl⟩;have hcd:isD c=true:=by rw [hc];exact hgd.out _ (List.getElem_mem hrL)
       have hc9:=D8 hcd;have hct48:48<=c.toNat/\c.toNat<=57:=by unfold isD at hcd;simpa using hcd
       have hcell:=hDM.dig r (by omega);rw [hrest r (by omega),hat.out r hrL,<-hc] at hcell;have hcp:=hDM.dig p (by omega);have zp:=hDM.blk.frz p none;obtain ⟨q,hq⟩:∃q,q=N / K:=⟨_,rfl⟩;obtain ⟨m,hm⟩:∃m,m=N % K:=⟨_,rfl⟩;have hdiv:(N:Int) / (K:Int)=(q:Int):=by rw [hq];simp
       have hq10:q<10:=by rw [hq];exact (Nat.div_lt_iff_lt_mul (by omega)).2 hN9
       have hmK:m<K:=by rw [hm];exact Nat.mod_lt _ (by omega)
       have hand:bits .and .u64 (N:Int) (M:Int)=(m:Int):=by rw [hm];exact hmask.out N (by omega)
       obtain ⟨N', hN'⟩:∃N', N' = m * 10+dv c:=⟨_,rfl⟩;have hnx:(m:Int) * 10+(c.toNat:Int) - 48=(N' : Int):=by rw [hN'];unfold dv;omega
       have hN'9:N' < 10 * K:=by omega
       have y5:(q:Int)+48=((dg8 q).toNat:Int):=by unfold dg8;rw [B5 hq10];omega
       have hO2:rsO k d=(P++[dg8 q])++(outR k N' (d.L.drop (r+1))).1++B4 k (k+2) (outR k N' (d.L.drop (r+1))).2:=by
         rw [hO,List.drop_eq_getElem_cons hrL,<-hc,outR];rw [hK.out] at hq hm;rw [<-hq,<-hm,<-hN'];dsimp only;rw [List.append_assoc P [dg8 q],List.singleton_append]
       have hput:=hDM.put (i:=p) (by omega) (dg8 q);have hrowP2:row (stF g p (dg8 q)) (p+1)=P++[dg8 q]:=by rw [row_put,hrowP]
       have hrest2:∀i,p+1<=i->stF g p (dg8 q) i=f i:=fun i hi=>by rw [stF_ne g _ (by omega)];exact hrest i (by omega)
       replace hcell:=hcell;replace hO:=Hd hO;replace hO2:=Hd hO2;replace hrowP:=Hd hrowP;replace hrowP2:=Hd hrowP2;replace hrest:=Hd hrest;replace hrest2:=Hd hrest2;replace hput:=Hd hput;replace hDM:=Hd hDM;replace hF:=Hd hF;replace hq:=Hd hq;replace hm:=Hd hm;replace hc:=Hd hc;replace hN' := Hd hN';replace hPl:=Hd hPl;clear hcd hct48 hc9;go_wp2_with fail
       go_round
       case rel=>exact ⟨p+1,r+1,N', by go_num,by go_num,rfl,by omega,hN'9,.inl (by omega),.inr (by omega),stF g p (dg8 q),P++[dg8 q],by rw [List.length_append,hPl.out];rfl,hrowP2.out,hrest2.out,hO2.out,hput.out,hF.out.setCell (fun _=>rfl) _⟩
       case measure=>simp [intOf];omega
     · have hrni:¬(r:Int)<(nd:Int):=by omega
       have hdr:d.L.drop r=[]:=List.drop_eq_nil_of_le (by rw [<-hnd.out];omega);rw [hdr,outR,List.append_nil] at hO;dsimp only at hO;have hFr0:Front P g d.tr d.tr p:=by
         refine ⟨by omega,?_,?_⟩
         · rw [hrowP,List.take_of_length_le (by omega)]
         · rw [List.drop_eq_nil_of_le (by omega)];simp
       have hT0:TailI k (k+2) N:=.start (by rw [<-hK.out];exact hN9);replace hO:=Hd hO;replace hFr0:=Hd hFr0;replace hT0:=Hd hT0;replace hDM:=Hd hDM;replace hF:=Hd hF;replace hdr:=Hd hdr;replace hPl:=Hd hPl;clear hrowP hrest;go_wp2_with fail
       go_loopw [5,6] (fun s5 s6 wx=>∃p N fu:Nat,s5=.int .i64 (p:Int)/\s6=.int .u64 (N:Int)/\TailI k fu N /\
           ∃g P t,Front P g d.tr t p/\rsO k d=P++B4 k fu N/\DM wx b g nd dq ng t/\Fr (fun k=>k=b) w wx) (fun _ s6 _=>(B4 k 100 (intOf s6).toNat).length)
       case atStart=>exact ⟨p,N,k+2,rfl,rfl,hT0.out,g,P,d.tr,hFr0.out,hO.out,hDM.out,hF.out⟩
       case round=>
         clear hDM hF hFr0 hT0 c0 hO hPl hN9;obtain ⟨p,N,fu,rfl,rfl,hTI,g,P,t,hFr,hO,hDM,hF⟩:=hrel;have hN9:=hTI.lt;rw [<-hK.out] at hN9;have hp9:p<=800:=by have:=hFr.len;omega
         by_cases hN0' : N=0
         · subst hN0'
           rw [Dl,List.append_nil] at hO;have hz:((0:Nat):Int)=0:=rfl;have hfinal:rsD k d=D9 (row g p) dq t:=by
             unfold rsD;rw [hO,<-hFr.row,<-hFr.cut];congr 1;rw [hdq.out,<-hr0.out];omega
           have c0:=hDM.nd;have zn:=hDM.blk.frz 800 none;have htr:=Gs (hDM.setN p) hp9;have hF2:=Fr.setCell (p:=⟨b,800,none⟩) hF (fun _=>rfl) (.int .i64 (p:Int));rw [<-hfinal] at htr;replace hfinal:=Hd hfinal;replace htr:=Hd htr;replace hF2:=Hd hF2;replace hFr:=Hd hFr;replace hO:=Hd hO;replace hTI:=Hd hTI;replace hDM:=Hd hDM;replace hF:=Hd hF;go_wp2_with fail
           refine htr.out.mono ?_;rintro e w' ⟨rfl,hd', hf'⟩;replace hd' := Hd hd';replace hf' := Hd hf';go_wp2
           go_end0
           exact ⟨rfl,hd'.out,hF2.out.trans hf'.out⟩
         · have hNpos:(0:Int)<(N:Int):=by omega
           rcases fu with _ | fu
           · exact absurd (hTI.zero rfl) hN0'
           rw [Ey hN0'] at hO;have hTn:=hTI.next;have hmeas:(B4 k 100 (N % 2 ^ k * 10)).length<(B4 k 100 N).length:=by
             rw [Gb hTI (by have:=hTI.le;omega),Gb hTn (by have:=hTI.le;omega),Ey hN0', List.length_cons];omega
           obtain ⟨q,hq⟩:∃q,q=N / K:=⟨_,rfl⟩;obtain ⟨m,hm⟩:∃m,m=N % K:=⟨_,rfl⟩;have hdiv:(N:Int) / (K:Int)=(q:Int):=by rw [hq];simp
           have hq10:q<10:=by rw [hq];exact (Nat.div_lt_iff_lt_mul (by omega)).2 hN9
           have hmK:m<K:=by rw [hm];exact Nat.mod_lt _ (by omega)
           have hand:bits .and .u64 (N:Int) (M:Int)=(m:Int):=by rw [hm];exact hmask.out N (by omega)
           have hqk:N / 2 ^ k=q:=by rw [hq,hK.out]
           have hmk:N % 2 ^ k=m:=by rw [hm,hK.out]
           rw [hqk,hmk] at hO;rw [hmk] at hTn hmeas;have hO2:rsO k d=(P++[dg8 q])++B4 k fu (m * 10):=by rw [hO,List.append_assoc,List.singleton_append]
           have y5:(q:Int)+48=((dg8 q).toNat:Int):=by unfold dg8;rw [B5 hq10];omega
           replace hO:=Hd hO;replace hO2:=Hd hO2;replace hTn:=Hd hTn;replace hTI:=Hd hTI;replace hmeas:=Hd hmeas;replace hq:=Hd hq;replace hm:=Hd hm;replace hqk:=Hd hqk;replace hmk:=Hd hmk;by_cases h8:p<800
           · have h8i:(p:Int)<800:=by omega
             have hcp:=hDM.dig p h8;have zp:=hDM.blk.frz p none;have hput:=hDM.put (i:=p) h8 (dg8 q);have hFr2:=hFr.put h8 (dg8 q);replace hput:=Hd hput;replace hFr2:=Hd hFr2;replace hFr:=Hd hFr;replace hDM:=Hd hDM;replace hF:=Hd hF;go_wp2_with fail
             go_round
             case rel=>exact ⟨p+1,m * 10,fu,by go_num,by go_num,hTn.out,stF g p (dg8 q),P++[dg8 q],t,hFr2.out,hO2.out,hput.out,hF.out.setCell (fun _=>rfl) _⟩
             case measure=>
               simp [intOf];rw [show ((m:Int) * 10).toNat=m * 10 by omega];exact hmeas.out
           · have h8i:¬(p:Int)<800:=by omega
             have hFr2:=hFr.skip (by omega) (dg8 q);rw [dg8_ne hq10] at hFr2;have hct:=hDM.cut;have zt:=hDM.blk.frz 803 none;have hset:=hDM.setT true;replace hset:=Hd hset;replace hFr:=Hd hFr;replace hDM:=Hd hDM;replace hF:=Hd hF;by_cases hq0:0<q
             · have hq0i:(0:Int)<(q:Int):=by omega
               rw [decide_eq_true hq0,Bool.or_true] at hFr2;replace hFr2:=Hd hFr2;go_wp2_with fail
               go_round
               case rel=>exact ⟨p,m * 10,fu,rfl,by go_num,hTn.out,g,P++[dg8 q],true,hFr2.out,hO2.out,hset.out,hF.out.setCell (fun _=>rfl) _⟩
               case measure=>
               simp [intOf];rw [show ((m:Int) * 10).toNat=m * 10 by omega];exact hmeas.out
             · have hq0i:¬(0:Int)<(q:Int):=by omega
               rw [decide_eq_false hq0,Bool.or_false] at hFr2;replace hFr2:=Hd hFr2;go_wp2_with fail
               go_round
               case rel=>exact ⟨p,m * 10,fu,rfl,by go_num,hTn.out,g,P++[dg8 q],t,hFr2.out,hO2.out,hDM.out,hF.out⟩
               case measure=>
               simp [intOf];rw [show ((m:Int) * 10).toNat=m * 10 by omega];exact hmeas.out
set_option maxRecDepth 100000 in
set_option maxHeartbeats 3200000 in
theorem shiftL_any {w0 w:World} {b k:Nat} {d:Dec} {ng:Bool} (hw:Dn w0 w b) (h:Dm w b d ng) (hg:d.Good) (hk1:1<=k) (hk:k<=60) (hp0:-1000000<=d.dp) (hp1:d.dp<=1000000) :
   Calls Tryz.prog 110 #[.pointer (some ⟨b,0,none⟩),.int .i64 (k:Int)] w fun e w' => e=.returned (.tuple #[])/\Dm w' b (lsD k d) ng/\Fr (fun k=>k=b) w w' := by
 have hL:=dleft_any hw h hg hk1 hk hp0 hp1
 obtain ⟨f,hD,hrow⟩:=h
 have c0:=hD.nd
 have hnd:=hg.val.2
 have hn0:((d.L.length:Int) == 0)=false:=by rw [beq_eq_false_iff_ne];omega
 have hk0:(0:Int)<(k:Int):=by omega
 have hk60:¬(60:Int)<(k:Int):=by omega
 obtain ⟨nd,hndd⟩:∃nd,nd=d.L.length:=⟨_,rfl⟩
 rw [<-hndd] at hn0 c0
 replace hL:=Hd hL
 replace hndd:=Hd hndd
 clear hD hrow hg hw hnd
 go_enter Tryz.func110,Tryz.ntmps110
 go_wp2_with fail
 go_loop [1] (fun s1=>s1=.int .i64 (k:Int)) (fun _=>0)
 case atStart=>rfl
 case round=>
   obtain rfl:=hrel;go_wp2_with fail
   refine hL.out.mono ?_;rintro e w' ⟨rfl,h2⟩;replace h2:=Hd h2;go_wp2
   go_end0
   exact ⟨rfl,h2.out⟩
set_option maxRecDepth 100000 in
set_option maxHeartbeats 3200000 in
theorem shiftR_any {w:World} {b f n:Nat} {d:Dec} {ng:Bool} (h:Dm w b d ng) (hg:d.Good) (h1:1<=n) (hf:n<=60 * (f+1)) (hn:n<=200000) (hp0:-500000<=d.dp) (hp1:d.dp<=500000) (hfl:f<=20000) :
   Calls Tryz.prog 110 #[.pointer (some ⟨b,0,none⟩),.int .i64 (-(n:Int))] w fun e w' => e=.returned (.tuple #[])/\Dm w' b (shR f n d) ng/\Fr (fun k=>k=b) w w' := by
 have hD:=h
 obtain ⟨g,hDg,hrow⟩:=hD
 have c0:=hDg.nd
 have hnd:=hg.val.2
 have hn0:((d.L.length:Int) == 0)=false:=by rw [beq_eq_false_iff_ne];omega
 have hk0:-(n:Int)<0:=by omega
 have hk1:¬(0:Int) < -(n:Int):=by omega
 obtain ⟨nd,hndd⟩:∃nd,nd=d.L.length:=⟨_,rfl⟩
 rw [<-hndd] at hn0 c0
 obtain ⟨R,hR⟩:∃R,R=shR f n d:=⟨_,rfl⟩
 rw [<-hR]
 replace h:=Hd h
 replace hR:=Hd hR
 replace hndd:=Hd hndd
 replace hg:=Hd hg
 clear hDg hrow hnd
 go_enter Tryz.func110,Tryz.ntmps110
 go_wp2_with fail
 go_loopw [1] (fun s1 wr=>∃(m e:Nat) (d' : Dec),s1=.int .i64 (-(m:Int))/\1<=m/\m<=n/\e<=f/\m<=60 * (e+1)/\d'.Good/\d'.dp<=d.dp/\d.dp - 20 * ((f:Int) - e)<=d'.dp/\shR e m d' = R/\Dm wr b d' ng/\Fr (fun k=>k=b) w wr) (fun s1 _=>(-(intOf s1)).toNat)
 case atStart=>exact ⟨n,f,d,rfl,h1,Nat.le_refl _,Nat.le_refl _,hf,hg.out,Int.le_refl _,by omega,hR.out.symm,h.out,Fr.refl _ _⟩
 case round=>
   obtain ⟨m,e,d', rfl,hm1,hmn,hef,hme,hg', hq1,hq2,hR', hD', hF⟩:=hrel;replace hD' := Hd hD';replace hF:=Hd hF;replace hg' := Hd hg';by_cases h60:60<m
   · have h60i:-(m:Int) < -60:=by omega
     rcases e with _ | e
     · omega
     rw [shR,if_pos h60] at hR';have hr:=right_any' hD'.out hg'.out (k:=60) (by decide) (by decide) (by omega) (by omega);obtain ⟨g1,g2,g3⟩:=rs_dp hg'.out (k:=60) (by decide) (by decide);obtain ⟨m', hm'⟩:∃m', m' = m - 60:=⟨_,rfl⟩;have hmi:-(m:Int)+60=-(m' : Int):=by omega
     rw [<-hm'] at hR';replace hm' := Hd hm';replace hr:=Hd hr;replace hR' := Hd hR';replace g1:=Hd g1;go_wp2_with fail
     refine hr.out.mono ?_;rintro x w2 ⟨rfl,h2,h3⟩;have hF2:=hF.out.trans h3;replace hF2:=Hd hF2;replace h2:=Hd h2;clear h3;go_wp2_with fail
     go_round
     case rel=>exact ⟨m', e,rsD 60 d', rfl,by have:=hm'.out;omega,by have:=hm'.out;omega,by omega,by have:=hm'.out;omega,g1.out,by omega,by omega,hR'.out,h2.out,hF2.out⟩
     case measure=>have:=hm'.out;simp [intOf];omega
   · have h60i:¬-(m:Int) < -60:=by omega
     have hRR:rsD m d' = R:=by
       rw [<-hR'];cases e with
       | zero=>rfl
       | succ e=>rw [shR,if_neg h60]
     have hr:=right_any' hD'.out hg'.out (k:=m) hm1 (by omega) (by omega) (by omega);rw [hRR] at hr;replace hr:=Hd hr;replace hR' := Hd hR';replace hRR:=Hd hRR;go_wp2_with fail
     refine hr.out.mono ?_;rintro x w2 ⟨rfl,h2,h3⟩;have hF2:=hF.out.trans h3;replace hF2:=Hd hF2;replace h2:=Hd h2;clear h3;go_wp2
     go_end0
     exact ⟨rfl,h2.out,hF2.out⟩
set_option maxRecDepth 100000 in
set_option maxHeartbeats 3200000 in
theorem roundUp_any {w:World} {b:Nat} {d:Dec} {ng:Bool} {nd:Int} (h:Dm w b d ng) (hg:d.Good) (h0:-1000000<=nd) (h1:nd<=1000000) :
   Calls Tryz.prog 145 #[.pointer (some ⟨b,0,none⟩),.int .i64 nd] w fun e w' => e=.returned (.bool (upQ d nd))/\w' = w:=by
 obtain ⟨g,hD,hrow⟩:=h
 have c0:=hD.nd
 have c3:=hD.cut
 have hn8:=hg.len
 have hgd:=hg.dig
 obtain ⟨len,hlen⟩:∃len,len=d.L.length:=⟨_,rfl⟩
 obtain ⟨tr,htr⟩:∃tr,tr=d.tr:=⟨_,rfl⟩
 rw [<-hlen] at c0 hn8
 rw [<-htr] at c3
 have hcell:∀i (hi:i<d.L.length),w.cell? ⟨b,i,none⟩=some (.int .u8 ((d.L[i]).toNat:Int)):=fun i hi=>by rw [<-row_at hrow hi];exact hD.dig i (by omega)
 replace hcell:=Hd hcell
 replace hgd:=Hd hgd
 clear hD hrow hg
 by_cases hneg:nd<0
 · have hU:upQ d nd=false:=by unfold upQ;rw [if_pos (.inl hneg)]
   rw [hU];replace hU:=Hd hU;replace hlen:=Hd hlen;replace htr:=Hd htr
   go_enter Tryz.func145,Tryz.ntmps145
   go_wp2;go_ret;exact ⟨rfl,rfl⟩
 obtain ⟨i,rfl⟩:∃i:Nat,nd=i:=⟨nd.toNat,by omega⟩
 have hneg' : decide ((i:Int)<0)=false:=decide_eq_false hneg
 by_cases hge:len<=i
 · have hU:upQ d i=false:=by unfold upQ;rw [if_pos (.inr (by rw [<-hlen];omega))]
   have hgei:(len:Int)<=(i:Int):=by omega
   rw [hU];replace hU:=Hd hU;replace hlen:=Hd hlen;replace htr:=Hd htr
   go_enter Tryz.func145,Tryz.ntmps145
   go_wp2;go_ret;exact ⟨rfl,rfl⟩
 have hiL:i<d.L.length:=by rw [<-hlen];omega
 have hgei:¬(len:Int)<=(i:Int):=by omega
 obtain ⟨c,hc⟩:∃c,c=d.L[i]:=⟨_,rfl⟩
 have hci:=hcell.out i hiL
 rw [<-hc] at hci
 have hU0:upQ d i=if c=53/\i+1=len then (if tr then true else decide (0<i) && decide (dv (d.L.getD (i - 1) 0) % 2=1)) else decide (53<=c.toNat):=by
   unfold upQ;rw [if_neg (by rw [<-hlen];omega),Int.toNat_natCast,getD_at hiL,<-hc,<-htr,<-hlen,show ((i:Int) - 1).toNat=i - 1 by omega];have e1:((i:Int)+1=(len:Int)) ↔ (i+1=len):=by omega
   have e2:((0:Int)<(i:Int)) ↔ (0<i):=by omega
   simp only [e1,e2]
 have hi8:(i:Int)<800:=by omega
 by_cases h53:c=53
 · have hcn:((c.toNat:Int) == 53)=true:=by rw [h53];rfl
   have hcv:(c.toNat:Int)=53:=by rw [h53];rfl
   by_cases hlast:i+1=len
   · have hlb:(((i:Int)+1) == (len:Int))=true:=by rw [beq_iff_eq];omega
     rw [if_pos ⟨h53,hlast⟩] at hU0;cases htc:tr with
     | true=>
       rw [htc] at hU0 c3;simp only [if_true] at hU0;rw [hU0];replace hU0:=Hd hU0;replace hlen:=Hd hlen;replace htr:=Hd htr;replace htc:=Hd htc;replace hc:=Hd hc;replace h53:=Hd h53;replace hlast:=Hd hlast
       go_enter Tryz.func145,Tryz.ntmps145
       go_wp2;go_ret;exact ⟨rfl,rfl⟩
     | false=>
       rw [htc] at hU0 c3;simp only [Bool.false_eq_true,if_false] at hU0;rw [hU0];by_cases hi0:i=0
       · have hpos:¬(0:Int)<(i:Int):=by omega
         rw [decide_eq_false (show ¬0<i by omega),Bool.false_and];replace hU0:=Hd hU0;replace hlen:=Hd hlen;replace htr:=Hd htr;replace htc:=Hd htc;replace hc:=Hd hc;replace h53:=Hd h53;replace hlast:=Hd hlast;replace hi0:=Hd hi0
         go_enter Tryz.func145,Tryz.ntmps145
         go_wp2;go_ret;exact ⟨rfl,rfl⟩
       · have hpos:(0:Int)<(i:Int):=by omega
         have hjL:i - 1<d.L.length:=by omega
         obtain ⟨j,hj⟩:∃j,j=i - 1:=⟨_,rfl⟩;rw [<-hj] at hjL;obtain ⟨c', hc'⟩:∃c', c' = d.L[j]:=⟨_,rfl⟩;have hcj:=hcell.out j hjL;rw [<-hc'] at hcj;have hd' : isD c' = true:=by rw [hc'];exact hgd.out _ (List.getElem_mem hjL)
         have hc9:48<=c'.toNat/\c'.toNat<=57:=by unfold isD at hd'; simpa using hd'
         rw [decide_eq_true (show 0<i by omega),Bool.true_and,<-hj,getD_at hjL,<-hc'];have hji:(i:Int) - 1=(j:Int):=by omega
         obtain ⟨v,hv⟩:∃v,v=dv c' := ⟨_,rfl⟩;have hv2:(c'.toNat:Int) - 48=(v:Int):=by rw [hv];unfold dv;omega
         have hv9:v<=9:=by rw [hv];exact D8 hd'
         obtain ⟨ρ,hρ⟩:∃ρ,ρ=v % 2:=⟨_,rfl⟩;have ht1:(v:Int).tmod 2=(ρ:Int):=by rw [Int.tmod_eq_emod_of_nonneg (by omega)];omega
         have ht2:(v:Int) % 2=(ρ:Int):=by omega
         have hρ1:ρ<=1:=by omega
         obtain ⟨B,hB⟩:∃B,B=decide (ρ=1):=⟨_,rfl⟩;have hb:((ρ:Int) != 0)=B:=by
           rw [hB];rcases Nat.lt_or_ge ρ 1 with h9 | h9
           · have:ρ=0:=by omega
             rw [this];rfl
           · have:ρ=1:=by omega
             rw [this];rfl
         rw [<-hv,<-hρ,<-hB];replace hU0:=Hd hU0;replace hlen:=Hd hlen;replace htr:=Hd htr;replace htc:=Hd htc;replace hc:=Hd hc;replace hc' := Hd hc';replace h53:=Hd h53;replace hlast:=Hd hlast;replace hj:=Hd hj;replace hv:=Hd hv;replace hρ:=Hd hρ;replace hB:=Hd hB;clear hi0 hd' hc9
         go_enter Tryz.func145,Tryz.ntmps145
         go_wp2;go_ret;exact ⟨rfl,rfl⟩
   · have hlb:(((i:Int)+1) == (len:Int))=false:=by rw [beq_eq_false_iff_ne];omega
     rw [if_neg (fun e=>hlast e.2)] at hU0;rw [hU0,h53];replace hU0:=Hd hU0;replace hlen:=Hd hlen;replace htr:=Hd htr;replace hc:=Hd hc;replace h53:=Hd h53;clear hlast
     go_enter Tryz.func145,Tryz.ntmps145
     go_wp2;go_ret;exact ⟨rfl,rfl⟩
 · have hcn:((c.toNat:Int) == 53)=false:=by
     rw [beq_eq_false_iff_ne];exact fun e=>h53 (UInt8.toNat_inj.1 (show c.toNat=53 by omega))
   rw [if_neg (fun e=>h53 e.1)] at hU0;rw [hU0];obtain ⟨B,hB⟩:∃B,B=decide (53<=c.toNat):=⟨_,rfl⟩;have hb:decide ((53:Int)<=(c.toNat:Int))=B:=by rw [hB];simp;omega
   rw [<-hB];replace hU0:=Hd hU0;replace hlen:=Hd hlen;replace htr:=Hd htr;replace hc:=Hd hc;replace hB:=Hd hB;clear h53
   go_enter Tryz.func145,Tryz.ntmps145
   go_wp2;go_ret;exact ⟨by rw [<-hb];simp,rfl⟩
set_option maxRecDepth 100000 in
set_option maxHeartbeats 3200000 in
theorem rounded_any {w:World} {b:Nat} {d:Dec} {ng:Bool} (h:Dm w b d ng) (hg:d.Good) (h0:-1000000<=d.dp) (h1:d.dp<=16) :
   Calls Tryz.prog 152 #[.pointer (some ⟨b,0,none⟩)] w fun e w' => e=.returned (.int .u64 (rndI d:Int))/\w' = w:=by
 have hup:=roundUp_any h hg h0 (by omega)
 obtain ⟨g,hD,hrow⟩:=h
 have c0:=hD.nd
 have cp:=hD.pt
 have hn8:=hg.len
 have hgd:=hg.dig
 obtain ⟨len,hlen⟩:∃len,len=d.L.length:=⟨_,rfl⟩
 obtain ⟨P,hP⟩:∃P,P=d.dp.toNat:=⟨_,rfl⟩
 obtain ⟨dp,hdp⟩:∃dp,dp=d.dp:=⟨_,rfl⟩
 obtain ⟨U,hU⟩:∃U,U=upQ d d.dp:=⟨_,rfl⟩
 obtain ⟨M,hM⟩:∃M,M=min P len:=⟨_,rfl⟩
 have hP16:P<=16:=by omega
 have hdP:(dp<0/\P=0)\/dp=(P:Int):=by omega
 have hrnd:rndI d=valD (d.L.take M) * 10 ^ (P - M)+U.toNat:=by
   unfold rndI;rw [<-hP,<-hU,<-hlen];congr 2
   · rw [hM,hlen]
     rcases Nat.le_total P d.L.length with h9 | h9
     · rw [Nat.min_eq_left h9]
     · rw [Nat.min_eq_right h9,List.take_of_length_le h9,List.take_of_length_le (Nat.le_refl _)]
   · rw [hM];congr 1;omega
 have hcell:∀i (hi:i<d.L.length),w.cell? ⟨b,i,none⟩=some (.int .u8 ((d.L[i]).toNat:Int)):=fun i hi=>by rw [<-row_at hrow hi];exact hD.dig i (by omega)
 have hval:∀i,i<=M->valD (d.L.take i)<10 ^ i:=fun i hi=>by
   have:=Bw (l:=d.L.take i) (fun c hc=>hgd c (List.mem_of_mem_take hc));rwa [List.length_take,Nat.min_eq_left (by omega)] at this
 have hten:∀i,i<=16->10 ^ i<=10000000000000000:=fun i hi=>by
   have:10 ^ i<=10 ^ 16:=Nat.pow_le_pow_right (by decide) hi;exact this
 rw [hrnd]
 rw [<-hU,<-hdp] at hup
 rw [<-hlen] at c0
 rw [<-hdp] at cp
 have h20:¬(20:Int)<dp:=by omega
 replace hcell:=Hd hcell
 replace hval:=Hd hval
 replace hten:=Hd hten
 replace hgd:=Hd hgd
 replace hup:=Hd hup
 replace hrnd:=Hd hrnd
 replace hU:=Hd hU
 replace hdp' := Hd hdp
 replace hP:=Hd hP
 replace hM:=Hd hM
 replace hlen:=Hd hlen
 have hdp9:-1000000<=dp/\dp<=16:=by omega
 clear hD hrow hg hdp h0 h1
 go_enter Tryz.func152,Tryz.ntmps152
 go_wp2_with fail
 go_loop [3,4] (fun s3 s4=>∃i:Nat,i<=M/\s3=.int .i64 (i:Int)/\s4=.int .u64 (valD (d.L.take i):Int)) (fun s3 _=>M - (intOf s3).toNat)
 case atStart=>exact ⟨0,Nat.zero_le _,rfl,by simp [valD]⟩
 case round=>
   obtain ⟨i,hi,rfl,rfl⟩:=hrel;have hMM:=hM.out;obtain ⟨v,hv⟩:∃v,v=valD (d.L.take i):=⟨_,rfl⟩;have hv9:v<=10000000000000000:=by rw [hv];exact Nat.le_of_lt (Nat.lt_of_lt_of_le (hval.out i hi) (hten.out i (by omega)))
   rw [<-hv];by_cases hlt:i<M
   · have hiL:i<d.L.length:=by rw [<-hlen.out];omega
     have hdpi:(i:Int)<dp:=by omega
     have hnii:(i:Int)<(len:Int):=by omega
     obtain ⟨c,hc⟩:∃c,c=d.L[i]:=⟨_,rfl⟩;have hci:=hcell.out i hiL;rw [<-hc] at hci;have hcd:isD c=true:=by rw [hc];exact hgd.out _ (List.getElem_mem hiL)
     have hc9:48<=c.toNat/\c.toNat<=57:=by unfold isD at hcd;simpa using hcd
     have hi8:(i:Int)<800:=by omega
     obtain ⟨dd,hdd⟩:∃dd,dd=dv c:=⟨_,rfl⟩;have hd2:(c.toNat:Int) - 48=(dd:Int):=by rw [hdd];unfold dv;omega
     have hdd9:dd<=9:=by rw [hdd];exact D8 hcd
     have hnx:((v * 10+dd:Nat):Int)=((valD (d.L.take (i+1)):Nat):Int):=by rw [take_val hiL,<-hv,<-hc,<-hdd]
     have hnx2:(v:Int) * 10+(dd:Int)=((v * 10+dd:Nat):Int):=by omega
     obtain ⟨v', hv'⟩:∃v', v' = v * 10+dd:=⟨_,rfl⟩;rw [<-hv'] at hnx hnx2;replace hnx:=Hd hnx;replace hv:=Hd hv;replace hv' := Hd hv';replace hc:=Hd hc;replace hdd:=Hd hdd;replace hMM:=Hd hMM;replace hdP:=Hd hdP;clear hcd hc9;go_wp2_with fail
     go_round
     case rel=>exact ⟨i+1,by omega,by go_num,by rw [hnx.out]⟩
     case measure=>simp [intOf];omega
   · have hiM:i=M:=by omega
     have hend:¬((i:Int)<dp/\(i:Int)<(len:Int)):=by omega
     subst hiM;have hdge:(P:Int)<=16:=by omega
     have hP0:(dp<0/\P=0/\i=0)\/dp=(P:Int):=by omega
     replace hMM:=Hd hMM;replace hdP:=Hd hdP;replace hP0' := Hd hP0;have hgoal:∀(j:Nat),i<=j->j<=P->v * 10 ^ (j - i)<=100000000000000000:=fun j h1 h2=>by
       have e1:v * 10 ^ (j - i)<=10 ^ i * 10 ^ (j - i):=Nat.mul_le_mul_right _ (by rw [hv];exact Nat.le_of_lt (hval.out i (Nat.le_refl _)));rw [<-Nat.pow_add,show i+(j - i)=j by omega] at e1;have:=hten.out j (by omega);omega
     replace hgoal:=Hd hgoal;replace hv:=Hd hv;have key:∀W:World,True:=fun _=>trivial;by_cases hA:(i:Int)<dp
     · have hB:¬(i:Int)<(len:Int):=by omega
       replace hend:=Hd hend;replace hP0:=Hd hP0;go_wp2_with fail
       go_loop [3,4] (fun s3 s4=>∃j:Nat,i<=j/\j<=P/\s3=.int .i64 (j:Int)/\s4=.int .u64 ((v * 10 ^ (j - i):Nat):Int)) (fun s3 _=>P - (intOf s3).toNat)
       case atStart=>exact ⟨i,Nat.le_refl _,by have:=hMM.out;omega,rfl,by simp⟩
       case round=>
         obtain ⟨j,hij,hjP,rfl,rfl⟩:=hrel;obtain ⟨x,hx⟩:∃x,x=v * 10 ^ (j - i):=⟨_,rfl⟩;have hx9:x<=100000000000000000:=by rw [hx];exact hgoal.out j hij hjP
         have hP00:=hP0.out;rw [<-hx];by_cases hjd:(j:Int)<dp
         · have hjn:((x * 10:Nat):Int)=((v * 10 ^ (j+1 - i):Nat):Int):=by
             rw [hx,show j+1 - i=(j - i)+1 by omega,Nat.pow_succ,Nat.mul_assoc]
           have hjn2:(x:Int) * 10=((x * 10:Nat):Int):=by omega
           have hjP2:j+1<=P:=by omega
           obtain ⟨y,hy⟩:∃y,y=x * 10:=⟨_,rfl⟩;rw [<-hy] at hjn hjn2;replace hjn:=Hd hjn;replace hy:=Hd hy;replace hx:=Hd hx;replace hP00:=Hd hP00;go_wp2_with fail
           go_round
           case rel=>exact ⟨j+1,by omega,hjP2,by go_num,by rw [hjn.out]⟩
           case measure=>simp [intOf];omega
         · have hjP2:j=P:=by omega
           have hx2:x=valD (d.L.take i) * 10 ^ (P - i):=by rw [hx,hjP2,hv.out]
           replace hx:=Hd hx;replace hx2:=Hd hx2;replace hjP2:=Hd hjP2;replace hP00:=Hd hP00;go_wp2_with fail
           refine hup.out.mono ?_;rintro e w' ⟨rfl,hww⟩;obtain rfl:=hww.symm;clear hww;cases U
           · go_wp2
             go_ret;exact ⟨by rw [<-hx2.out];simp,rfl⟩
           · go_wp2
             go_ret;exact ⟨by rw [<-hx2.out];simp,rfl⟩
     · replace hend:=Hd hend
       replace hP0:=Hd hP0;go_wp2_with fail
       go_loop [3,4] (fun s3 s4=>∃j:Nat,i<=j/\j<=P/\s3=.int .i64 (j:Int)/\s4=.int .u64 ((v * 10 ^ (j - i):Nat):Int)) (fun s3 _=>P - (intOf s3).toNat)
       case atStart=>exact ⟨i,Nat.le_refl _,by have:=hMM.out;omega,rfl,by simp⟩
       case round=>
         obtain ⟨j,hij,hjP,rfl,rfl⟩:=hrel;obtain ⟨x,hx⟩:∃x,x=v * 10 ^ (j - i):=⟨_,rfl⟩;have hx9:x<=100000000000000000:=by rw [hx];exact hgoal.out j hij hjP
         have hP00:=hP0.out;rw [<-hx];by_cases hjd:(j:Int)<dp
         · exfalso;omega
         · have hjP2:j=P:=by omega
           have hx2:x=valD (d.L.take i) * 10 ^ (P - i):=by rw [hx,hjP2,hv.out]
           replace hx:=Hd hx;replace hx2:=Hd hx2;replace hjP2:=Hd hjP2;replace hP00:=Hd hP00;go_wp2_with fail
           refine hup.out.mono ?_;rintro e w' ⟨rfl,hww⟩;obtain rfl:=hww.symm;clear hww;cases U
           · go_wp2
             go_ret;exact ⟨by rw [<-hx2.out];simp,rfl⟩
           · go_wp2
             go_ret;exact ⟨by rw [<-hx2.out];simp,rfl⟩
end Go.Proofs.YteoalcmhdoopnaaGreatDoor
