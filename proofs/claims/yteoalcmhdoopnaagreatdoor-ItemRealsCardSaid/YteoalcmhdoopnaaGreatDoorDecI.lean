/- internal/strconv.decimal.set at every text that is a float's. -/
import Derived.Test.YteoalcmhdoopnaaGreatDoorJ42
import Derived.Test.YteoalcmhdoopnaaGreatDoorReadF
namespace Go.Proofs.YteoalcmhdoopnaaGreatDoor
open Go.RowKit
def decN (d:Bool) (L:List UInt8) (m:Nat) (x:Int):Dec:=⟨Am L,(if d then (ndF L:Int) - m else ndF L)+x,false⟩
set_option maxRecDepth 100000 in
set_option maxHeartbeats 6400000 in
theorem set_any {s:ByteArray} {neg d:Bool} {L:List UInt8} {m:Nat} {x:Int} (h:FTxt s neg d L m x) (hz:s.size<=700) {w:World} {b:Nat} {f:Nat->UInt8} {n0 t0:Bool} (hD:DM w b f 0 0 n0 t0) :
   Calls Tryz.prog 120 #[.pointer (some ⟨b,0,none⟩),.string s] w fun e w' => e=.returned (.bool true)/\Dm w' b (decN d L m x) neg/\Fr (fun k=>k=b) w w' := by
 obtain ⟨⟨c,body,rest,hs,hc,hsc,hex,hok⟩,hsz,hne⟩:=h
 replace hne:=Hd hne
 obtain ⟨a,ha⟩:∃a:Nat,a=if neg then 1 else 0:=⟨_,rfl⟩
 have hda:s.data.toList.drop a=c :: body:=by
   rw [hs,ha];cases neg<;>rfl
 obtain ⟨halt,hca,hda1⟩:=Ac hda
 have h0lt:0<s.size:=by omega
 obtain ⟨c0,hc0⟩:∃c0:UInt8,s[0]'h0lt=c0:=⟨_,rfl⟩
 have hc0n:(neg=true/\a=1/\(c0.toNat:Int)=45)\/(neg=false/\a=0/\c0=c):=by
   cases neg with
   | true=>
     left;refine ⟨rfl,ha,?_⟩;have h1:=Lib.data_getElem? s 0 h0lt;rw [hs,hc0] at h1;have h2:c0=45:=(Option.some.inj h1).symm;rw [h2];rfl
   | false=>
     right;have ha0:a=0:=ha;subst ha0;exact ⟨rfl,rfl,hc0.symm.trans hca⟩
 have h0lti:(0:Int)<(s.size:Int):=by omega
 have hsne:¬s=ByteArray.empty:=fun e=>by rw [Ad,e] at h0lt;exact absurd h0lt (by decide)
 have hsne2:decide (s=ByteArray.empty)=false:=decide_eq_false hsne
 have hsz9:(s.size:Int)<=700:=by omega
 have ha1:a<=1:=by rw [ha];split<;>omega
 have hc9:48<=c.toNat/\c.toNat<=57:=by simp [isD] at hc;exact hc
 have csg:=hD.sg
 have cct:=hD.cut
 have zsg:=hD.blk.frz 802 none
 have zct:=hD.blk.frz 803 none
 have hS1:=(hD.setS false).setT false
 have hF1:=Fr.setCell (S:=fun k=>k=b) (p:=⟨b,803,none⟩) (Fr.setCell (S:=fun k=>k=b) (p:=⟨b,802,none⟩) (Fr.refl _ w) (fun _=>rfl) (.bool false)) (fun _=>rfl) (.bool false)
 have hS2:=hS1.setS true
 have hF2:=Fr.setCell (p:=⟨b,802,none⟩) hF1 (fun _=>rfl) (.bool true)
 replace hS1:=Hd hS1
 replace hF1:=Hd hF1
 replace hS2:=Hd hS2
 replace hF2:=Hd hF2
 replace hD:=Hd hD
 replace hs:=Hd hs
 replace hc0n:=Hd hc0n
 replace ha:=Hd ha
 have hcai:=hca
 replace hca:=Hd hca
 clear hcai
 replace hsc:=Hd hsc
 replace hex:=Hd hex
 replace hok:=Hd hok
 replace hc:=Hd hc
 replace hda:=Hd hda
 replace hda1:=Hd hda1
 go_enter Tryz.func120,Tryz.ntmps120
 go_upto_block 0 with fail
 go_cut [5] from 22 to 33 (fun s5 wx=>s5=.int .i64 (a:Int)/\DM wx b f 0 0 neg false/\Fr (fun k=>k=b) w wx)
 case first=>
   rcases hc0n.out with ⟨e1,e2,e3⟩ | ⟨e1,e2,e3⟩
   · subst e1
     subst e2;go_wp2_with fail
     go_meet
     exact ⟨rfl,hS2.out,hF2.out⟩
   · subst e1
     subst e2;subst e3;have k1:¬(c0.toNat:Int)=43:=by omega
     have k2:¬(c0.toNat:Int)=45:=by omega
     have k3:((c0.toNat:Int) == 43)=false:=by simpa using k1
     have k4:((c0.toNat:Int) == 45)=false:=by simpa using k2
     go_wp2_with fail
     go_meet
     exact ⟨rfl,hS1.out,hF1.out⟩
 case rest=>
   clear hS1 hF1 hS2 hF2 hD csg cct zsg zct;obtain ⟨rfl,hD,hF⟩:=hcut
   rename World=>wy
   clear hc0n hc0;have halti:(a:Int)<(s.size:Int):=by omega
   have hca' := hca.out;obtain ⟨K,hK⟩:∃K:Nat,K=s.size - rest.length:=⟨_,rfl⟩;have hrest:∃p,c :: body=p++rest:=Da hsc.out;have hKd:K<=s.size/\s.data.toList.drop K=rest:=by
     obtain ⟨p,hp⟩:=hrest;have h1:s.data.toList=(s.data.toList.take a++p)++rest:=by
       rw [List.append_assoc,<-hp,<-hda.out,List.take_append_drop]
     have h2:=congrArg List.length h1;rw [<-Ad,List.length_append] at h2;have h3:K=(s.data.toList.take a++p).length:=by omega
     refine ⟨by omega,?_⟩;rw [h3];have h4:∀A B:List UInt8,(A++B).drop A.length=B:=fun A B=>List.drop_left ..;have h5:=h4 (s.data.toList.take a++p) rest;rw [<-h1] at h5;exact h5
   replace hK:=Hd hK;replace hKd:=Hd hKd;replace hD:=Hd hD;replace hF:=Hd hF;clear hrest
   go_upto_block 1 with fail
   go_cut [5,6,7] from 36 to 116 (fun s5 s6 s7 wx=>s5=.int .i64 (K:Int)/\s6=.bool d/\s7=.bool true/\(∃g,DM wx b g (ndF L) ((ndF L:Int) - m) neg false/\row g (ndF L)=Am L)/\Fr (fun k=>k=b) w wx)
   case first=>
     go_wp2_with fail
     go_loopw [5,6,7] (fun s5 s6 s7 wr=>∃(k:Nat) (e:Bool) (M:List UInt8) (j:Nat),s5=.int .i64 (k:Int)/\s6=.bool e/\s7=.bool (decide (M≠[])) /\
         k<=s.size/\j<=k/\M.length<=k/\(∀b∈M,isD b=true)/\(∀b∈s.data.toList.drop k,okC b)/\Bi (s.data.toList.drop k) e M j=(d,L,m,rest) /\
         (∃g,DM wr b g (ndF M) ((ndF M:Int) - j) neg false/\row g (ndF M)=Am M)/\Fr (fun k=>k=b) w wr) (fun i _ _ _=>s.size - (intOf i).toNat)
     case atStart=>
       exact ⟨a,false,[],0,rfl,rfl,rfl,by omega,Nat.zero_le _,Nat.zero_le _,fun b hb=>by simp at hb,fun b hb=>hok.out b (by rw [<-hda.out];exact hb),by rw [hda.out];exact hsc.out,⟨f,hD.out,rfl⟩,hF.out⟩
     case round=>
       clear hD hF;obtain ⟨k,e,M,j,rfl,rfl,rfl,hk,hjk,hMk,hMd,hkok,hscan,⟨g,hD,hrow⟩,hF⟩:=hrel;obtain ⟨nd,hnd⟩:∃nd,nd=ndF M:=⟨_,rfl⟩;obtain ⟨dp,hdp⟩:∃dp:Int,dp=(nd:Int) - j:=⟨_,rfl⟩;obtain ⟨nz,hnz⟩:∃nz:Bool,nz=decide (M≠[]):=⟨_,rfl⟩;have hndM:nd<=M.length:=by rw [hnd];exact B9 M
       rw [<-hnd] at hD hrow;rw [<-hdp] at hD;rw [<-hnz];have hdpb:-1000<=dp/\dp<=1000:=by omega
       have hnd9:nd<=700:=by omega
       have c0:=hD.nd;have c1:=hD.pt;have z0:=hD.blk.frz 800 none;have z1:=hD.blk.frz 801 none;replace hnd:=Hd hnd;replace hdp:=Hd hdp;replace hnz:=Hd hnz;replace hMd:=Hd hMd;replace hkok:=Hd hkok;replace hrow:=Hd hrow;cases hl:s.data.toList.drop k with
       | nil=>
         have hks:=Bx hl;have hke:s.size=k:=by omega
         rw [hl,Bi] at hscan;simp only [Prod.mk.injEq] at hscan;obtain ⟨rfl,rfl,rfl,hr0⟩:=hscan;have hKk:K=k:=by rw [hK.out,<-hr0];simp;omega
         have hlti:¬(k:Int)<(s.size:Int):=by omega
         rw [hnd.out] at hD hrow;replace hl:=Hd hl;replace hr0:=Hd hr0;replace hke:=Hd hke;replace hKk:=Hd hKk;replace hD:=Hd hD;replace hF:=Hd hF;clear hks;go_wp2_with fail
         go_meet
         exact ⟨by rw [hKk.out],rfl,by rw [hnz.out,decide_eq_true hne.out],⟨g,by have:=hD.out;rw [hdp.out,hnd.out] at this;exact this,hrow.out⟩,hF.out⟩
       | cons c1 l1=>
         obtain ⟨hlt,hc1,hd1⟩:=Ac hl;have hlti:(k:Int)<(s.size:Int):=by omega
         have hokc1:okC c1:=hkok.out c1 (by rw [hl];exact List.mem_cons_self ..);have hlow1:=okC_low hokc1;have q95:((c1.toNat:Int) == 95)=false:=by simp;omega
         have hkok1:∀b∈s.data.toList.drop (k+1),okC b:=fun b hb=>hkok.out b (by rw [hl];rw [hd1] at hb;exact List.mem_cons_of_mem _ hb);have hc256:c1.toNat<256:=c1.toNat_lt;rw [hl,Bi] at hscan;replace hkok1:=Hd hkok1;replace hd1:=Hd hd1;replace hl:=Hd hl;replace hokc1:=Hd hokc1;by_cases h46:c1.toNat=46
         · rw [if_pos h46] at hscan
           have q46:((c1.toNat:Int) == 46)=true:=by simp;omega
           have q46' : (c1.toNat:Int)=46:=by omega
           cases e with
           | true=>
             exfalso;simp only [if_true,Prod.mk.injEq] at hscan;have hx:=hex.out;rw [<-hscan.2.2.2] at hx;cases hx<;>(revert h46;decide)
           | false=>
             rw [if_neg (by decide),<-hd1.out] at hscan;have hDp:=hD.setP (nd:Int);replace hDp:=Hd hDp;replace hscan:=Hd hscan;replace hD:=Hd hD;replace hF:=Hd hF;clear hlow1 h46;go_wp2_with fail
             go_round
             case rel=>exact ⟨k+1,true,M,0,by go_num,rfl,by rw [hnz.out],by omega,by omega,by omega,hMd.out,hkok1.out,hscan.out,⟨g,by rw [<-hnd.out];simpa using hDp.out,by rw [<-hnd.out];exact hrow.out⟩,hF.out.setCell (fun _=>rfl) _⟩
             case measure=>simp [intOf];omega
         · rw [if_neg h46] at hscan
           have q46:((c1.toNat:Int) == 46)=false:=by simp;omega
           have q46' : ¬(c1.toNat:Int)=46:=by omega
           by_cases hdg:isD c1=true
           · rw [if_pos hdg,<-hd1.out] at hscan
             have hdr:48<=c1.toNat/\c1.toNat<=57:=by simp [isD] at hdg;exact hdg
             have r1:(48:Int)<=(c1.toNat:Int):=by omega
             have r2:(c1.toNat:Int)<=57:=by omega
             have hMd1:∀b∈M++[c1],isD b=true:=fun b hb=>by
               rw [List.mem_append,List.mem_singleton] at hb;rcases hb with hb | hb
               · exact hMd.out b hb
               · rw [hb];exact hdg
             replace hMd1:=Hd hMd1;replace hscan:=Hd hscan;have hne1:decide (M++[c1]≠[])=true:=decide_eq_true (by simp);replace hne1:=Hd hne1;clear hlow1;by_cases hz0:c1.toNat=48/\nd=0
             · have z1' : ((c1.toNat:Int) == 48)=true:=by simp;omega
               have hc48:c1=48:=UInt8.toNat_inj.1 hz0.1;have hzz:=ndF_zero (l:=M) (by rw [<-hnd.out];exact hz0.2);rw [<-hc48] at hzz;obtain ⟨hz1,hz2⟩:=hz0;have z3:(c1.toNat:Int)=48:=by omega
               have hst0:Am (M++[c1])=[]:=List.eq_nil_of_length_eq_zero hzz.1;have hDp:=hD.setP (dp - 1);have hn0i:(nd:Int)=0:=by omega
               have hdd:dp - 1=((ndF (M++[c1]):Nat):Int) - ((j+1:Nat):Int):=by rw [hzz.1];have:=hdp.out;omega
               have hn00:ndF (M++[c1])=nd:=by rw [hzz.1,hz2]
               have hDfin:∃g', DM (wr.setCell ⟨b,801,none⟩ (.int .i64 (dp - 1))) b g' (ndF (M++[c1])) ((ndF (M++[c1]):Int) - ((j+1:Nat):Int)) neg false/\row g' (ndF (M++[c1]))=Am (M++[c1]):=by
                 refine ⟨g,?_,?_⟩
                 · rw [<-hdd,hn00];exact hDp
                 · rw [hzz.1,hst0];rfl
               replace hDfin:=Hd hDfin;replace hDp:=Hd hDp;replace hdd:=Hd hdd;replace hn00:=Hd hn00;replace hst0:=Hd hst0;replace hzz:=Hd hzz;replace hc48:=Hd hc48;replace hD:=Hd hD;replace hF:=Hd hF;clear hz1 h46;rw [hz2] at c0;replace hz2:=Hd hz2;go_wp2_with fail
               go_round
               case rel=>exact ⟨k+1,e,M++[c1],j+1,by go_num,rfl,by rw [hne1.out],by omega,by omega,by simp;omega,hMd1.out,hkok1.out,hscan.out,hDfin.out,hF.out.setCell (fun _=>rfl) _⟩
               case measure=>simp [intOf];omega
             · have hor:c1≠48\/ndF M≠0:=by
                 rw [<-hnd.out];by_cases h48:c1.toNat=48
                 · right;intro e0;exact hz0 ⟨h48,e0⟩
                 · left;intro e0;exact h48 (by rw [e0];rfl)
               obtain ⟨s1,_,_⟩:=ndF_snoc hor;rw [<-hnd.out] at s1;have hst:Am (M++[c1])=Am M++[c1]:=stripL_snoc (by
                 rcases hor with h9 | h9
                 · exact .inl h9
                 · right;intro e0;apply h9;unfold ndF;rw [e0];rfl)
               have hn8:nd<800:=by omega
               have hcd:=hD.dig nd hn8;have zd:=hD.blk.frz nd none;have hput:=(hD.put hn8 c1).setN (nd+1);have hn8i:(nd:Int)<800:=by omega
               have hn1:(nd:Int)+1=((nd+1:Nat):Int):=by omega
               have hDfin:∃g', DM ((wr.setCell ⟨b,nd,none⟩ (.int .u8 (c1.toNat:Int))).setCell ⟨b,800,none⟩ (.int .i64 ((nd:Int)+1))) b g' (ndF (M++[c1])) ((ndF (M++[c1]):Int) - ((j+1:Nat):Int)) neg false/\row g' (ndF (M++[c1]))=Am (M++[c1]):=by
                 refine ⟨stF g nd c1,?_,?_⟩
                 · have e9:((ndF (M++[c1]):Nat):Int) - ((j+1:Nat):Int)=dp:=by rw [s1];have:=hdp.out;omega
                   rw [e9,s1,hn1];exact hput
                 · rw [s1,hst,row_put,hrow.out]
               have hFfin:=(hF.setCell (p:=⟨b,nd,none⟩) (fun _=>rfl) (.int .u8 (c1.toNat:Int))).setCell (p:=⟨b,800,none⟩) (fun _=>rfl) (.int .i64 ((nd:Int)+1));have hcn:¬((c1.toNat:Int)=48/\(nd:Int)=0):=by omega
               replace hDfin:=Hd hDfin;replace hFfin:=Hd hFfin;replace hput:=Hd hput;replace s1:=Hd s1;replace hst:=Hd hst;replace hor:=Hd hor;replace hD:=Hd hD;replace hF:=Hd hF;replace hn1:=Hd hn1;clear h46 hz0;by_cases h48:c1.toNat=48
               · have z1' : ((c1.toNat:Int) == 48)=true:=by simp;omega
                 have z2' : ((nd:Int) == 0)=false:=by rw [beq_eq_false_iff_ne];omega
                 clear hcn h48;go_upto_region 25 with fail
                 go_region
                 go_wp2_with fail
                 go_round
                 case rel=>exact ⟨k+1,e,M++[c1],j+1,by go_num,rfl,by rw [hne1.out],by omega,by omega,by simp;omega,hMd1.out,hkok1.out,hscan.out,(by obtain ⟨g', x1,x2⟩:=hDfin.out;exact ⟨g', x1.drewN 1,x2⟩),hFfin.out.drew⟩
                 case measure=>simp [intOf];omega
               · have z1' : ((c1.toNat:Int) == 48)=false:=by rw [beq_eq_false_iff_ne];omega
                 clear hcn h48;go_upto_region 25 with fail
                 go_region
                 go_wp2_with fail
                 go_round
                 case rel=>exact ⟨k+1,e,M++[c1],j+1,by go_num,rfl,by rw [hne1.out],by omega,by omega,by simp;omega,hMd1.out,hkok1.out,hscan.out,(by obtain ⟨g', x1,x2⟩:=hDfin.out;exact ⟨g', x1.drewN 1,x2⟩),hFfin.out.drew⟩
                 case measure=>simp [intOf];omega
           · rw [if_neg hdg] at hscan
             simp only [Prod.mk.injEq] at hscan;obtain ⟨rfl,rfl,rfl,hr0⟩:=hscan;have h101:c1.toNat=101:=by
               have hx:=hex.out;rw [<-hr0] at hx;cases hx<;>rfl
             have hKk:K=k:=by
               have h1:=congrArg List.length hl.out;rw [List.length_drop,<-Ad,hr0] at h1;rw [hK.out];omega
             have r1:(48:Int)<=(c1.toNat:Int):=by omega
             have r2:¬(c1.toNat:Int)<=57:=by omega
             replace hr0:=Hd hr0;replace hKk:=Hd hKk;replace hD:=Hd hD;replace hF:=Hd hF;clear hlow1;go_wp2_with fail
             go_meet
             exact ⟨by rw [hKk.out],rfl,by rw [hnz.out,decide_eq_true hne.out],⟨g,by have:=hD.out;rw [hdp.out,hnd.out] at this;exact this,by rw [<-hnd.out];exact hrow.out⟩,hF.out⟩
   case rest=>
     clear hD hF;obtain ⟨rfl,rfl,rfl,⟨g,hD,hrow⟩,hF⟩:=hcut
     rename World=>wt
     obtain ⟨nd,hnd⟩:∃nd,nd=ndF L:=⟨_,rfl⟩;obtain ⟨dp,hdp⟩:∃dp:Int,dp=(nd:Int) - m:=⟨_,rfl⟩;obtain ⟨dq,hdq⟩:∃dq:Int,dq=if d then dp else (nd:Int):=⟨_,rfl⟩;rw [<-hnd] at hD hrow;rw [<-hdp] at hD;have hdec:decN d L m x=⟨Am L,dq+x,false⟩:=by unfold decN;rw [<-hnd,<-hdp,hdq]
     have hndl:(Am L).length=nd:=by rw [hnd];rfl
     have hLs:nd<=700/\m<=700:=by
       have h1:=Cu hsc.out;have h2:=congrArg List.length hda.out;rw [List.length_drop,<-Ad] at h2;have h3:nd<=L.length:=by rw [hnd];exact B9 L
       simp only [List.length_nil] at h1;omega
     have hdp9:-1000<=dp/\dp<=1000:=by omega
     have hdq9:-1000<=dq/\dq<=1000:=by rw [hdq];split<;>omega
     have hx9:-100000<=x/\x<=100000:=by
       have hx:=hex.out;clear hex hKd hsc;cases hx with
       | none=>omega
       | bare h1 h2=>have:=Ce h2;omega
       | plus h1 h2=>have:=Ce h2;omega
       | minus h1 h2=>have:=Ce h2;omega
     have c0:=hD.nd;have c1:=hD.pt;have z1:=hD.blk.frz 801 none;have hDq:=hD.setP (nd:Int);have hFq:=Fr.setCell (p:=⟨b,801,none⟩) hF (fun _=>rfl) (.int .i64 (nd:Int));replace hnd:=Hd hnd;replace hdp:=Hd hdp;replace hdq:=Hd hdq;replace hdec:=Hd hdec;replace hndl:=Hd hndl;replace hrow:=Hd hrow;replace hDq:=Hd hDq;replace hFq:=Hd hFq;replace hD:=Hd hD;replace hF:=Hd hF
     go_upto_if 120 with fail
     go_cut [] from 121 to 127 (fun wx=>DM wx b g nd dq neg false/\Fr (fun k=>k=b) w wx)
     case first=>
       cases d
       · have e1:dq=(nd:Int):=hdq.out
         replace e1:=Hd e1;go_wp2_with fail
         go_meet
         exact ⟨by rw [e1.out];exact hDq.out,hFq.out⟩
       · have e1:dq=dp:=hdq.out
         replace e1:=Hd e1;go_wp2_with fail
         go_meet
         exact ⟨by rw [e1.out];exact hD.out,hF.out⟩
     case rest=>
       clear c0 c1 z1 hDq hFq hD hF;obtain ⟨hD,hF⟩:=hcut
       rename World=>wu
       have c1:=hD.pt;have z1:=hD.blk.frz 801 none;have hDp:=fun q=>hD.setP q;have hFp:=fun q=>Fr.setCell (p:=⟨b,801,none⟩) hF (fun _=>rfl) (.int .i64 q);replace hDp:=Hd hDp;replace hFp:=Hd hFp;replace hD:=Hd hD;replace hF:=Hd hF;go_upto_region 32 with fail
       go_cut [138] from 128 to 138 (fun s138 wx=>s138=.bool (!rest.isEmpty)/\wx=wu)
       case first=>
         cases hr:rest with
         | nil=>
           have hk1:=Bx (hr ▸ hKd.out.2);have hlt:¬(K:Int)<(s.size:Int):=by omega
           clear hk1;replace hr:=Hd hr;go_wp2_with fail
           go_meet
           exact ⟨by rw [hr.out];rfl,rfl⟩
         | cons c1 l1=>
           obtain ⟨hlt,hc1,_⟩:=Ac (hr ▸ hKd.out.2);have h101:c1.toNat=101:=by
             have hx:=hex.out;rw [hr] at hx;cases hx<;>rfl
           have hok1:okC c1:=.inr (.inr (.inl h101));have q1:((c1.toNat:Int) == 101)=true:=by simp [h101]
           have hlti:(K:Int)<(s.size:Int):=by omega
           replace hr:=Hd hr;replace hok1:=Hd hok1;clear h101;go_wp2_with fail
           refine (Fn hok1.out _).mono ?_;rintro e w' ⟨rfl,hww⟩;obtain rfl:=hww.symm;clear hww;go_wp2_with fail
           go_meet
           exact ⟨by rw [hr.out];rfl,rfl⟩
       case rest=>
         obtain ⟨rfl,hww⟩:=hcut;obtain rfl:=hww.symm;clear hww
         go_upto_if 138 with fail
         go_cut [5,8,9] from 139 to 219 (fun s5 _ _ wx=>s5=.int .i64 (s.size:Int)/\DM wx b g nd (dq+x) neg false/\Fr (fun k=>k=b) w wx)
         case first=>
           have hx:=hex.out;have hK2:=hKd.out;clear hex hKd hsc;cases hx with
           | none=>
             have hk1:=Bx hK2.2;have hks:(K:Int)=(s.size:Int):=by omega
             replace hks:=Hd hks;clear hk1 hK2;go_wp2_with fail
             go_meet
             exact ⟨by rw [hks.out],by rw [Int.add_zero];exact hD.out,hF.out⟩
           | @bare E hEne hEd=>
             obtain ⟨hltK,hcK,hdK⟩:=Ac hK2.2;have hKi:(K:Int)+1=((K+1:Nat):Int):=by omega
             have hK9:(K:Int)<=1000:=by omega
             clear hK2;obtain ⟨q,hq⟩:∃q:Nat,q=K+1:=⟨_,rfl⟩;rw [<-hq] at hdK hKi;replace hq:=Hd hq;have hE0:s.data.toList.drop q=E:=hdK;cases hEE:E with
             | nil=>exact absurd hEE hEne
             | cons c2 E2=>
               rw [hEE] at hE0;obtain ⟨hlt2,hc2,hd2⟩:=Ac hE0;have hg2:48<=c2.toNat/\c2.toNat<=57:=by
                 have:=hEd c2 (by rw [hEE];exact List.mem_cons_self ..);simp [isD] at this;exact this
               have y0:((q:Nat):Int)<(s.size:Int):=by omega
               have y1:¬(c2.toNat:Int)<48:=by omega
               have y2:¬(57:Int)<(c2.toNat:Int):=by omega
               have y3:((c2.toNat:Int) == 43)=false:=by simp;omega
               have y4:((c2.toNat:Int) == 45)=false:=by simp;omega
               rw [<-hEE] at hE0;have hqs:q+E.length=s.size:=by
                 have h1:=congrArg List.length hE0;rw [List.length_drop,<-Ad] at h1;omega
               replace hE0:=Hd hE0;replace hEE:=Hd hEE;replace hEd:=Hd hEd;replace hEne:=Hd hEne;replace hd2:=Hd hd2;replace hqs:=Hd hqs;go_wp2_with fail
               go_loop [5,9] (fun s5 s9=>∃j:Nat,j<=E.length/\s5=.int .i64 ((q+j:Nat):Int)/\s9=.int .i64 (capE (E.take j):Int)) (fun i _=>s.size - (intOf i).toNat)
               case atStart=>exact ⟨0,Nat.zero_le _,rfl,rfl⟩
               case round=>
                 obtain ⟨j,hj,rfl,rfl⟩:=hrel;obtain ⟨i,hi⟩:∃i:Nat,i=q+j:=⟨_,rfl⟩;obtain ⟨e,hee⟩:∃e:Nat,e=capE (E.take j):=⟨_,rfl⟩;have he9:e<100000:=by rw [hee];exact Ce (fun b hb=>hEd.out b (List.mem_of_mem_take hb))
                 rw [<-hi,<-hee];replace hi:=Hd hi;replace hee:=Hd hee;by_cases hjl:j<E.length
                 · have hdj:s.data.toList.drop i=E[j] :: E.drop (j+1):=by
                     rw [hi.out,<-List.drop_drop,hE0.out];exact List.drop_eq_getElem_cons hjl
                   obtain ⟨cj,hcj⟩:∃cj,cj=E[j]:=⟨_,rfl⟩;rw [<-hcj] at hdj;obtain ⟨hltj,hcj2,_⟩:=Ac hdj;have hgj:48<=cj.toNat/\cj.toNat<=57:=by
                     have:=hEd.out cj (by rw [hcj];exact List.getElem_mem hjl);simp [isD] at this;exact this
                   have x0:(i:Int)<(s.size:Int):=by omega
                   have x1:(48:Int)<=(cj.toNat:Int):=by omega
                   have x2:(cj.toNat:Int)<=57:=by omega
                   have x3:((cj.toNat:Int) == 95)=false:=by simp;omega
                   have x3' : ¬(cj.toNat:Int)=95:=by omega
                   have htk:E.take (j+1)=E.take j++[cj]:=by rw [List.take_succ_eq_append_getElem hjl,hcj]
                   have hcs:=Dd (E.take j) cj;rw [<-htk,<-hee.out] at hcs;replace hcs:=Hd hcs;replace hdj:=Hd hdj;replace hcj:=Hd hcj;clear htk;by_cases hcap:e<10000
                   · have x4:(e:Int)<10000:=by omega
                     have x5:((capE (E.take (j+1)):Nat):Int)=(e:Int) * 10+(cj.toNat:Int) - 48:=by
                       rw [hcs.out,if_pos hcap];unfold dv;omega
                     replace x5:=Hd x5;go_wp2_with fail
                     go_round
                     case rel=>exact ⟨j+1,by omega,by rw [hi.out];go_num,by rw [x5.out]⟩
                     case measure=>have:=hi.out;have:=hqs.out;simp [intOf];omega
                   · have x4:¬(e:Int)<10000:=by omega
                     have x5:((capE (E.take (j+1)):Nat):Int)=(e:Int):=by rw [hcs.out,if_neg hcap]
                     replace x5:=Hd x5;go_wp2_with fail
                     go_round
                     case rel=>exact ⟨j+1,by omega,by rw [hi.out];go_num,by rw [x5.out]⟩
                     case measure=>have:=hi.out;have:=hqs.out;simp [intOf];omega
                 · have hje:j=E.length:=by omega
                   have his:s.size=i:=by rw [hi.out,hje];exact hqs.out.symm
                   have hce:e=capE E:=by rw [hee.out,hje,List.take_length]
                   have x0:¬(i:Int)<(s.size:Int):=by omega
                   have x6:(i:Int)=(s.size:Int):=by omega
                   replace his:=Hd his;replace hce:=Hd hce;replace x6:=Hd x6;clear hje;go_wp2_with fail
                   go_meet
                   exact ⟨by rw [x6.out],by rw [<-hce.out];exact hDp.out _,hFp.out _⟩
           | @plus E hEne hEd=>
             obtain ⟨hltK,hcK,hdK⟩:=Ac hK2.2;obtain ⟨hltK1,hcK1,hdK1⟩:=Ac hdK;have e43:((43:UInt8).toNat:Int)=43:=rfl;have hK9:(K:Int)<=998:=by omega
             have hK1i:(K:Int)+1<(s.size:Int):=by omega
             clear hK2;obtain ⟨q,hq⟩:∃q:Nat,q=K+1+1:=⟨_,rfl⟩;have hKi:(K:Int)+1+1=(q:Int):=by omega
             rw [<-hq] at hdK1;replace hq:=Hd hq;have hE0:s.data.toList.drop q=E:=hdK1;cases hEE:E with
             | nil=>exact absurd hEE hEne
             | cons c2 E2=>
               rw [hEE] at hE0;obtain ⟨hlt2,hc2,hd2⟩:=Ac hE0;have hg2:48<=c2.toNat/\c2.toNat<=57:=by
                 have:=hEd c2 (by rw [hEE];exact List.mem_cons_self ..);simp [isD] at this;exact this
               have y0:((q:Nat):Int)<(s.size:Int):=by omega
               have y1:¬(c2.toNat:Int)<48:=by omega
               have y2:¬(57:Int)<(c2.toNat:Int):=by omega
               have y3:((c2.toNat:Int) == 43)=false:=by simp;omega
               have y4:((c2.toNat:Int) == 45)=false:=by simp;omega
               rw [<-hEE] at hE0;have hqs:q+E.length=s.size:=by
                 have h1:=congrArg List.length hE0;rw [List.length_drop,<-Ad] at h1;omega
               replace hE0:=Hd hE0;replace hEE:=Hd hEE;replace hEd:=Hd hEd;replace hEne:=Hd hEne;replace hd2:=Hd hd2;replace hqs:=Hd hqs;go_wp2_with fail
               go_loop [5,9] (fun s5 s9=>∃j:Nat,j<=E.length/\s5=.int .i64 ((q+j:Nat):Int)/\s9=.int .i64 (capE (E.take j):Int)) (fun i _=>s.size - (intOf i).toNat)
               case atStart=>exact ⟨0,Nat.zero_le _,rfl,rfl⟩
               case round=>
                 obtain ⟨j,hj,rfl,rfl⟩:=hrel;obtain ⟨i,hi⟩:∃i:Nat,i=q+j:=⟨_,rfl⟩;obtain ⟨e,hee⟩:∃e:Nat,e=capE (E.take j):=⟨_,rfl⟩;have he9:e<100000:=by rw [hee];exact Ce (fun b hb=>hEd.out b (List.mem_of_mem_take hb))
                 rw [<-hi,<-hee];replace hi:=Hd hi;replace hee:=Hd hee;by_cases hjl:j<E.length
                 · have hdj:s.data.toList.drop i=E[j] :: E.drop (j+1):=by
                     rw [hi.out,<-List.drop_drop,hE0.out];exact List.drop_eq_getElem_cons hjl
                   obtain ⟨cj,hcj⟩:∃cj,cj=E[j]:=⟨_,rfl⟩;rw [<-hcj] at hdj;obtain ⟨hltj,hcj2,_⟩:=Ac hdj;have hgj:48<=cj.toNat/\cj.toNat<=57:=by
                     have:=hEd.out cj (by rw [hcj];exact List.getElem_mem hjl);simp [isD] at this;exact this
                   have x0:(i:Int)<(s.size:Int):=by omega
                   have x1:(48:Int)<=(cj.toNat:Int):=by omega
                   have x2:(cj.toNat:Int)<=57:=by omega
                   have x3:((cj.toNat:Int) == 95)=false:=by simp;omega
                   have x3' : ¬(cj.toNat:Int)=95:=by omega
                   have htk:E.take (j+1)=E.take j++[cj]:=by rw [List.take_succ_eq_append_getElem hjl,hcj]
                   have hcs:=Dd (E.take j) cj;rw [<-htk,<-hee.out] at hcs;replace hcs:=Hd hcs;replace hdj:=Hd hdj;replace hcj:=Hd hcj;clear htk;by_cases hcap:e<10000
                   · have x4:(e:Int)<10000:=by omega
                     have x5:((capE (E.take (j+1)):Nat):Int)=(e:Int) * 10+(cj.toNat:Int) - 48:=by
                       rw [hcs.out,if_pos hcap];unfold dv;omega
                     replace x5:=Hd x5;go_wp2_with fail
                     go_round
                     case rel=>exact ⟨j+1,by omega,by rw [hi.out];go_num,by rw [x5.out]⟩
                     case measure=>have:=hi.out;have:=hqs.out;simp [intOf];omega
                   · have x4:¬(e:Int)<10000:=by omega
                     have x5:((capE (E.take (j+1)):Nat):Int)=(e:Int):=by rw [hcs.out,if_neg hcap]
                     replace x5:=Hd x5;go_wp2_with fail
                     go_round
                     case rel=>exact ⟨j+1,by omega,by rw [hi.out];go_num,by rw [x5.out]⟩
                     case measure=>have:=hi.out;have:=hqs.out;simp [intOf];omega
                 · have hje:j=E.length:=by omega
                   have his:s.size=i:=by rw [hi.out,hje];exact hqs.out.symm
                   have hce:e=capE E:=by rw [hee.out,hje,List.take_length]
                   have x0:¬(i:Int)<(s.size:Int):=by omega
                   have x6:(i:Int)=(s.size:Int):=by omega
                   replace his:=Hd his;replace hce:=Hd hce;replace x6:=Hd x6;clear hje;go_wp2_with fail
                   go_meet
                   exact ⟨by rw [x6.out],by rw [<-hce.out];exact hDp.out _,hFp.out _⟩
           | @minus E hEne hEd=>
             obtain ⟨hltK,hcK,hdK⟩:=Ac hK2.2;obtain ⟨hltK1,hcK1,hdK1⟩:=Ac hdK;have e43:((45:UInt8).toNat:Int)=45:=rfl;have hK9:(K:Int)<=998:=by omega
             have hK1i:(K:Int)+1<(s.size:Int):=by omega
             clear hK2;obtain ⟨q,hq⟩:∃q:Nat,q=K+1+1:=⟨_,rfl⟩;have hKi:(K:Int)+1+1=(q:Int):=by omega
             rw [<-hq] at hdK1;replace hq:=Hd hq;have hE0:s.data.toList.drop q=E:=hdK1;cases hEE:E with
             | nil=>exact absurd hEE hEne
             | cons c2 E2=>
               rw [hEE] at hE0;obtain ⟨hlt2,hc2,hd2⟩:=Ac hE0;have hg2:48<=c2.toNat/\c2.toNat<=57:=by
                 have:=hEd c2 (by rw [hEE];exact List.mem_cons_self ..);simp [isD] at this;exact this
               have y0:((q:Nat):Int)<(s.size:Int):=by omega
               have y1:¬(c2.toNat:Int)<48:=by omega
               have y2:¬(57:Int)<(c2.toNat:Int):=by omega
               have y3:((c2.toNat:Int) == 43)=false:=by simp;omega
               have y4:((c2.toNat:Int) == 45)=false:=by simp;omega
               rw [<-hEE] at hE0;have hqs:q+E.length=s.size:=by
                 have h1:=congrArg List.length hE0;rw [List.length_drop,<-Ad] at h1;omega
               replace hE0:=Hd hE0;replace hEE:=Hd hEE;replace hEd:=Hd hEd;replace hEne:=Hd hEne;replace hd2:=Hd hd2;replace hqs:=Hd hqs;go_wp2_with fail
               go_loop [5,9] (fun s5 s9=>∃j:Nat,j<=E.length/\s5=.int .i64 ((q+j:Nat):Int)/\s9=.int .i64 (capE (E.take j):Int)) (fun i _=>s.size - (intOf i).toNat)
               case atStart=>exact ⟨0,Nat.zero_le _,rfl,rfl⟩
               case round=>
                 obtain ⟨j,hj,rfl,rfl⟩:=hrel;obtain ⟨i,hi⟩:∃i:Nat,i=q+j:=⟨_,rfl⟩;obtain ⟨e,hee⟩:∃e:Nat,e=capE (E.take j):=⟨_,rfl⟩;have he9:e<100000:=by rw [hee];exact Ce (fun b hb=>hEd.out b (List.mem_of_mem_take hb))
                 rw [<-hi,<-hee];replace hi:=Hd hi;replace hee:=Hd hee;by_cases hjl:j<E.length
                 · have hdj:s.data.toList.drop i=E[j] :: E.drop (j+1):=by
                     rw [hi.out,<-List.drop_drop,hE0.out];exact List.drop_eq_getElem_cons hjl
                   obtain ⟨cj,hcj⟩:∃cj,cj=E[j]:=⟨_,rfl⟩;rw [<-hcj] at hdj;obtain ⟨hltj,hcj2,_⟩:=Ac hdj;have hgj:48<=cj.toNat/\cj.toNat<=57:=by
                     have:=hEd.out cj (by rw [hcj];exact List.getElem_mem hjl);simp [isD] at this;exact this
                   have x0:(i:Int)<(s.size:Int):=by omega
                   have x1:(48:Int)<=(cj.toNat:Int):=by omega
                   have x2:(cj.toNat:Int)<=57:=by omega
                   have x3:((cj.toNat:Int) == 95)=false:=by simp;omega
                   have x3' : ¬(cj.toNat:Int)=95:=by omega
                   have htk:E.take (j+1)=E.take j++[cj]:=by rw [List.take_succ_eq_append_getElem hjl,hcj]
                   have hcs:=Dd (E.take j) cj;rw [<-htk,<-hee.out] at hcs;replace hcs:=Hd hcs;replace hdj:=Hd hdj;replace hcj:=Hd hcj;clear htk;by_cases hcap:e<10000
                   · have x4:(e:Int)<10000:=by omega
                     have x5:((capE (E.take (j+1)):Nat):Int)=(e:Int) * 10+(cj.toNat:Int) - 48:=by
                       rw [hcs.out,if_pos hcap];unfold dv;omega
                     replace x5:=Hd x5;go_wp2_with fail
                     go_round
                     case rel=>exact ⟨j+1,by omega,by rw [hi.out];go_num,by rw [x5.out]⟩
                     case measure=>have:=hi.out;have:=hqs.out;simp [intOf];omega
                   · have x4:¬(e:Int)<10000:=by omega
                     have x5:((capE (E.take (j+1)):Nat):Int)=(e:Int):=by rw [hcs.out,if_neg hcap]
                     replace x5:=Hd x5;go_wp2_with fail
                     go_round
                     case rel=>exact ⟨j+1,by omega,by rw [hi.out];go_num,by rw [x5.out]⟩
                     case measure=>have:=hi.out;have:=hqs.out;simp [intOf];omega
                 · have hje:j=E.length:=by omega
                   have his:s.size=i:=by rw [hi.out,hje];exact hqs.out.symm
                   have hce:e=capE E:=by rw [hee.out,hje,List.take_length]
                   have x0:¬(i:Int)<(s.size:Int):=by omega
                   have x6:(i:Int)=(s.size:Int):=by omega
                   replace his:=Hd his;replace hce:=Hd hce;replace x6:=Hd x6;clear hje;go_wp2_with fail
                   go_meet
                   exact ⟨by rw [x6.out],by rw [<-hce.out];exact hDp.out _,hFp.out _⟩
         case rest=>
           obtain ⟨rfl,hD', hF'⟩:=hcut
           rename World=>wv
           have hfin:Dm wv b (decN d L m x) neg:=by
             rw [hdec.out];exact ⟨g,by rw [hndl.out];exact hD', by rw [hndl.out,hrow.out]⟩
           replace hfin:=Hd hfin;replace hD' := Hd hD';replace hF' := Hd hF';go_wp2;go_ret;exact ⟨rfl,hfin.out,hF'.out⟩
end Go.Proofs.YteoalcmhdoopnaaGreatDoor
