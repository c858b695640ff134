/- internal/strconv.readFloat: its walk, at every text that is a float's. -/
import Derived.Test.YtagkgfniihiinaaGreatDoorJ69
import Derived.Test.YtagkgfniihiinaaGreatDoorJ50
import Derived.Test.YtagkgfniihiinaaGreatDoorShelf
import Derived.Test.YtagkgfniihiinaaGreatDoorProg
import Derived.Lib.IndexBytes
import Derived.Deep.DeepCutAuto
import Derived.Deep.LoopGhost
import Derived.Deep.CutBlock
import Derived.WalkMore
set_option linter.all false
namespace Go.Proofs.YtagkgfniihiinaaGreatDoor
open Go.RowKit
theorem low_fin:∀c:Fin 256,(okC (UInt8.ofNat c.val)->bits .or .u8 (c.val:Int) 32=(c.val:Int)):=by
 intro c h;have key:∀c:Fin 256,((isD (UInt8.ofNat c.val) || (UInt8.ofNat c.val).toNat == 46 || (UInt8.ofNat c.val).toNat == 101 || (UInt8.ofNat c.val).toNat == 43 || (UInt8.ofNat c.val).toNat == 45)->bits .or .u8 (c.val:Int) 32=(c.val:Int)):=by decide +kernel
 refine key c ?_;simp only [Bool.or_eq_true,beq_iff_eq];rcases h with h | h | h | h | h
 · exact .inl (.inl (.inl (.inl h)))
 · exact .inl (.inl (.inl (.inr h)))
 · exact .inl (.inl (.inr h))
 · exact .inl (.inr h)
 · exact .inr h
theorem Gd {c:UInt8} (h:okC c) (w:World):Calls Tryz.prog 170 #[.int .u8 (c.toNat:Int)] w fun e w' => e=.returned (.int .u8 (c.toNat:Int))/\w' = w:=by
 have h1:=low_fin ⟨c.toNat,c.toNat_lt⟩ (by simpa using h);have h2:=Tryz.internal_strconv_lower (c.toNat:Int) w;rw [show bits .or .u8 (c.toNat:Int) 32=(c.toNat:Int) from h1] at h2;exact h2
theorem Ah {s:ByteArray} {k:Nat} {c:UInt8} {l:List UInt8} (h:s.data.toList.drop k=c :: l):∃hlt:k<s.size,s[k]'hlt=c/\s.data.toList.drop (k+1)=l:=by
 have hl:k<s.data.toList.length:=by
   rcases Nat.lt_or_ge k s.data.toList.length with h1 | h1
   · exact h1
   · rw [List.drop_of_length_le h1] at h;cases h
 have hlt:k<s.size:=by rw [Array.length_toList] at hl;exact hl
 rw [List.drop_eq_getElem_cons hl] at h;simp only [List.cons.injEq] at h;refine ⟨hlt,?_,h.2⟩;have h1:=Lib.data_getElem? s k hlt;rw [List.getElem?_eq_getElem hl,h.1] at h1;exact (Option.some.inj h1).symm
theorem Cg {s:ByteArray} {k:Nat} (h:s.data.toList.drop k=[]):s.size<=k:=by
 have:=List.drop_eq_nil_iff.1 h;rw [Array.length_toList] at this;exact this
theorem Aj (s:ByteArray):s.size=s.data.toList.length:=by rw [Array.length_toList];rfl
set_option maxRecDepth 100000 in
set_option maxHeartbeats 6400000 in
theorem Cr {s:ByteArray} {neg d:Bool} {L:List UInt8} {m:Nat} {x:Int} (h:FTxt s neg d L m x) (w:World) :
   Calls Tryz.prog 202 #[.string s] w fun e w' => e=.returned (.tuple #[.int .u64 (A3 L:Int),.int .i64 (expF d L m x),.bool neg,.bool (Bf L),.bool false,.int .i64 (s.size:Int),.bool true])/\w' = w:=by
 obtain ⟨⟨c,body,rest,hs,hc,hsc,hex,hok⟩,hsz,hne⟩:=h
 replace hne:=Hd hne
 have hlow:=fun (b:UInt8) (h:okC b) (w:World)=>Gd h w
 obtain ⟨a,ha⟩:∃a:Nat,a=if neg then 1 else 0:=⟨_,rfl⟩
 have hda:s.data.toList.drop a=c :: body:=by
   rw [hs,ha];cases neg<;>rfl
 obtain ⟨halt,hca,hda1⟩:=Ah hda
 have h0lt:0<s.size:=by omega
 obtain ⟨c0,hc0⟩:∃c0:UInt8,s[0]'h0lt=c0:=⟨_,rfl⟩
 have hc0n:(neg=true/\a=1/\(c0.toNat:Int)=45)\/(neg=false/\a=0/\c0=c):=by
   cases neg with
   | true=>
     left;refine ⟨rfl,ha,?_⟩;have h1:=Lib.data_getElem? s 0 h0lt;rw [hs,hc0] at h1;have h2:c0=45:=(Option.some.inj h1).symm;rw [h2];rfl
   | false=>
     right;have ha0:a=0:=ha;subst ha0;exact ⟨rfl,rfl,hc0.symm.trans hca⟩
 have h0lti:(0:Int)<(s.size:Int):=by omega
 have hsne:¬s=ByteArray.empty:=fun e=>by rw [Aj,e] at h0lt;exact absurd h0lt (by decide)
 have hsne2:decide (s=ByteArray.empty)=false:=decide_eq_false hsne
 have hsz9:(s.size:Int)<=1000:=by omega
 have ha1:a<=1:=by rw [ha];split<;>omega
 have hc9:48<=c.toNat/\c.toNat<=57:=by simp [isD] at hc;exact hc
 have hokc:okC c:=hok c (List.mem_cons_self ..)
 replace hs:=Hd hs
 replace hc0n:=Hd hc0n
 replace ha:=Hd ha
 have hcai:=hca
 replace hca:=Hd hca
 clear hcai
 replace hsc:=Hd hsc
 replace hex:=Hd hex
 replace hok:=Hd hok
 replace hokc:=Hd hokc
 replace hc:=Hd hc
 replace hlow:=Hd hlow
 replace hda:=Hd hda
 replace hda1:=Hd hda1
 go_enter Tryz.func202,Tryz.ntmps202
 go_wp2_with fail
 go_step3
 go_upto_block 0 with fail
 go_cut [4,7] from 26 to 35 (fun s4 s7 wx=>s4=.bool neg/\s7=.int .i64 (a:Int)/\wx=w)
 case first=>
   rcases hc0n.out with ⟨e1,e2,e3⟩ | ⟨e1,e2,e3⟩
   · subst e1
     subst e2;go_wp2_with fail
     go_meet
     exact ⟨rfl,rfl,rfl⟩
   · subst e1
     subst e2;subst e3;have k1:¬(c0.toNat:Int)=43:=by omega
     have k2:¬(c0.toNat:Int)=45:=by omega
     have k3:((c0.toNat:Int) == 43)=false:=by simpa using k1
     have k4:((c0.toNat:Int) == 45)=false:=by simpa using k2
     go_wp2_with fail
     go_meet
     exact ⟨rfl,rfl,rfl⟩
 case rest=>
   obtain ⟨rfl,rfl,hww⟩:=hcut;obtain rfl:=hww.symm;clear hww hc0n hc0;have halti:(a:Int)<(s.size:Int):=by omega
   have hca' := hca.out;go_upto_region 12 with fail
   go_cut [54] from 36 to 54 (fun s54 wx=>s54=.bool false/\wx=w)
   case first=>
     by_cases h2:a+2<s.size
     · have h2i:(a:Int)+2<(s.size:Int):=by omega
       by_cases h48:c.toNat=48
       · have k0:((c.toNat:Int) == 48)=true:=by simp [h48]
         have h1i:(a:Int)+1<(s.size:Int):=by omega
         cases hb:body with
         | nil=>
           have:=Cg (hb ▸ hda1.out);omega
         | cons c1 body1=>
           obtain ⟨hlt1,hc1,_⟩:=Ah (hb ▸ hda1.out);have hok1:okC c1:=hok.out c1 (by rw [hb];simp);have hn:=okC_low hok1;have k1:((c1.toNat:Int) == 120)=false:=by simp;omega
           replace hok1:=Hd hok1;replace hb:=Hd hb;clear hn;go_wp2_with fail
           refine (Gd hok1.out _).mono ?_;rintro e w' ⟨rfl,hww⟩;obtain rfl:=hww.symm;clear hww;go_wp2_with fail
           go_meet
           exact ⟨rfl,rfl⟩
       · have k0:((c.toNat:Int) == 48)=false:=by simp;omega
         go_wp2_with fail
         go_meet
         exact ⟨rfl,rfl⟩
     · have h2i:¬(a:Int)+2<(s.size:Int):=by omega
       go_wp2_with fail
       go_meet
       exact ⟨rfl,rfl⟩
   case rest=>
     obtain ⟨rfl,hww⟩:=hcut;obtain rfl:=hww.symm;clear hww;go_wp2_with fail
     go_step3
     go_upto_block 1 with fail
     obtain ⟨K,hK⟩:∃K:Nat,K=s.size - rest.length:=⟨_,rfl⟩;have hrest:∃p,c :: body=p++rest:=Dl hsc.out;have hKd:K<=s.size/\s.data.toList.drop K=rest:=by
       obtain ⟨p,hp⟩:=hrest;have h1:s.data.toList=(s.data.toList.take a++p)++rest:=by
         rw [List.append_assoc,<-hp,<-hda.out,List.take_append_drop]
       have h2:=congrArg List.length h1;rw [<-Aj,List.length_append] at h2;have h3:K=(s.data.toList.take a++p).length:=by omega
       refine ⟨by omega,?_⟩;rw [h3];have h4:∀A B:List UInt8,(A++B).drop A.length=B:=fun A B=>List.drop_left ..;have h5:=h4 (s.data.toList.take a++p) rest;rw [<-h1] at h5;exact h5
     obtain ⟨n19,hn19⟩:∃n19:Nat,n19=min 19 (ndF L):=⟨_,rfl⟩;replace hK:=Hd hK;replace hKd:=Hd hKd;replace hn19:=Hd hn19;clear hrest
     go_cut [2,5,7,9,13,14,15,16,17] from 57 to 138 (fun s2 s5 s7 s9 s13 s14 s15 s16 s17 wx=>s2=.int .u64 (A3 L:Int)/\s5=.bool (Bf L)/\s7=.int .i64 (K:Int)/\s9=.bool false/\s13=.bool d/\s14=.bool true/\s15=.int .i64 (ndF L:Int)/\s16=.int .i64 (n19:Int)/\s17=.int .i64 ((ndF L:Int) - m)/\wx=w)
     case first=>
       go_wp2_with fail
       go_loop [2,5,7,9,13,14,15,16,17] (fun s2 s5 s7 s9 s13 s14 s15 s16 s17=>∃(k:Nat) (e:Bool) (M:List UInt8) (j:Nat),s2=.int .u64 (A3 M:Int)/\s5=.bool (Bf M)/\s7=.int .i64 (k:Int)/\s9=.bool false/\s13=.bool e/\s14=.bool (decide (M≠[]))/\s15=.int .i64 (ndF M:Int)/\s16=.int .i64 ((min 19 (ndF M):Nat):Int)/\s17=.int .i64 ((ndF M:Int) - j) /\
           k<=s.size/\j<=k/\M.length<=k/\(∀b∈M,isD b=true)/\(∀b∈s.data.toList.drop k,okC b)/\B0 (s.data.toList.drop k) e M j=(d,L,m,rest)) (fun _ _ i _ _ _ _ _ _=>s.size - (intOf i).toNat)
       case atStart=>
         exact ⟨a,false,[],0,rfl,rfl,rfl,rfl,rfl,rfl,rfl,rfl,rfl,by omega,Nat.zero_le _,Nat.zero_le _,fun b hb=>by simp at hb,fun b hb=>hok.out b (by rw [<-hda.out];exact hb),by rw [hda.out];exact hsc.out⟩
       case round=>
         obtain ⟨k,e,M,j,rfl,rfl,rfl,rfl,rfl,rfl,rfl,rfl,rfl,hk,hjk,hMk,hMd,hkok,hscan⟩:=hrel;obtain ⟨mt,hmt⟩:∃mt,mt=A3 M:=⟨_,rfl⟩;obtain ⟨tr,htr⟩:∃tr,tr=Bf M:=⟨_,rfl⟩;obtain ⟨nd,hnd⟩:∃nd,nd=ndF M:=⟨_,rfl⟩;obtain ⟨n9,hn9⟩:∃n9,n9=min 19 nd:=⟨_,rfl⟩;obtain ⟨dp,hdp⟩:∃dp:Int,dp=(nd:Int) - j:=⟨_,rfl⟩;obtain ⟨nz,hnz⟩:∃nz:Bool,nz=decide (M≠[]):=⟨_,rfl⟩;have hndM:nd<=M.length:=by rw [hnd];exact Co M
         have hmt9:=mantF_lt (l:=M) hMd;rw [<-hmt,<-hnd,<-hn9] at hmt9;have hmtl:mt<10000000000000000000:=Nat.lt_of_lt_of_le hmt9 (Nat.pow_le_pow_right (n:=10) (by decide) (show n9<=19 by omega));rw [<-hnd,<-hmt,<-htr,<-hn9,<-hdp,<-hnz];have hdpb:-1000<=dp/\dp<=1000:=by omega
         have hnd9:nd<=1000:=by omega
         replace hmt9:=Hd hmt9;replace hmt:=Hd hmt;replace htr:=Hd htr;replace hnd:=Hd hnd;replace hdp:=Hd hdp;replace hnz:=Hd hnz;replace hMd:=Hd hMd;replace hkok:=Hd hkok;cases hl:s.data.toList.drop k with
         | nil=>
           have hks:=Cg hl;have hke:s.size=k:=by omega
           rw [hl,B0] at hscan;simp only [Prod.mk.injEq] at hscan;obtain ⟨rfl,rfl,rfl,hr0⟩:=hscan;have hKk:K=k:=by rw [hK.out,<-hr0];simp;omega
           have hlti:¬(k:Int)<(s.size:Int):=by omega
           replace hl:=Hd hl;replace hr0:=Hd hr0;replace hke:=Hd hke;replace hKk:=Hd hKk;clear hks;go_wp2_with fail
           go_meet
           exact ⟨by rw [hmt.out],by rw [htr.out],by rw [hKk.out],rfl,rfl,by rw [hnz.out,decide_eq_true hne.out],by rw [hnd.out],by rw [hn19.out,<-hnd.out],by rw [hdp.out,hnd.out],rfl⟩
         | cons c1 l1=>
           obtain ⟨hlt,hc1,hd1⟩:=Ah hl;have hlti:(k:Int)<(s.size:Int):=by omega
           have hokc1:okC c1:=hkok.out c1 (by rw [hl];exact List.mem_cons_self ..);have hlow1:=okC_low hokc1;have q95:((c1.toNat:Int) == 95)=false:=by simp;omega
           have hkok1:∀b∈s.data.toList.drop (k+1),okC b:=fun b hb=>hkok.out b (by rw [hl];rw [hd1] at hb;exact List.mem_cons_of_mem _ hb);have hc256:c1.toNat<256:=c1.toNat_lt;rw [hl,B0] at hscan;replace hkok1:=Hd hkok1;replace hd1:=Hd hd1;replace hl:=Hd hl;by_cases h46:c1.toNat=46
           · rw [if_pos h46] at hscan
             have q46:((c1.toNat:Int) == 46)=true:=by simp;omega
             have q46' : (c1.toNat:Int)=46:=by omega
             cases e with
             | true=>
               exfalso;simp only [if_true,Prod.mk.injEq] at hscan;have hx:=hex.out;rw [<-hscan.2.2.2] at hx;cases hx<;>(revert h46;decide)
             | false=>
               rw [if_neg (by decide),<-hd1.out] at hscan;replace hscan:=Hd hscan;clear hlow1;go_wp2_with fail
               go_round
               case rel=>exact ⟨k+1,true,M,0,by rw [hmt.out],by rw [htr.out],by go_num,rfl,rfl,by rw [hnz.out],by rw [hnd.out],by rw [<-hnd.out,hn9],by rw [hnd.out];simp,by omega,by omega,by omega,hMd.out,hkok1.out,hscan.out⟩
               case measure=>simp [intOf];omega
           · rw [if_neg h46] at hscan
             have q46:((c1.toNat:Int) == 46)=false:=by simp;omega
             have q46' : ¬(c1.toNat:Int)=46:=by omega
             by_cases hdg:isD c1=true
             · rw [if_pos hdg,<-hd1.out] at hscan
               have hdr:48<=c1.toNat/\c1.toNat<=57:=by simp [isD] at hdg;exact hdg
               have r1:(48:Int)<=(c1.toNat:Int):=by omega
               have r2:(c1.toNat:Int)<=57:=by omega
               have hMd1:∀b∈M++[c1],isD b=true:=fun b hb=>by
                 rw [List.mem_append,List.mem_singleton] at hb;rcases hb with hb | hb
                 · exact hMd.out b hb
                 · rw [hb];exact hdg
               replace hMd1:=Hd hMd1;replace hscan:=Hd hscan;have hne1:decide (M++[c1]≠[])=true:=decide_eq_true (by simp);replace hne1:=Hd hne1;clear hlow1;by_cases hz:c1.toNat=48/\nd=0
               · have z1:((c1.toNat:Int) == 48)=true:=by simp;omega
                 have z2:((nd:Int) == 0)=true:=by simp;omega
                 have hc48:c1=48:=UInt8.toNat_inj.1 hz.1;have hzz:=ndF_zero (l:=M) (by rw [<-hnd.out];exact hz.2);rw [<-hc48] at hzz;replace hzz:=Hd hzz;replace hc48:=Hd hc48;obtain ⟨hz1,hz2⟩:=hz;have z3:(c1.toNat:Int)=48:=by omega
                 clear hz1;subst hz2;go_wp2_with fail
                 go_round
                 case rel=>exact ⟨k+1,e,M++[c1],j+1,by rw [hzz.out.2.1,hmt.out],by rw [hzz.out.2.2,htr.out],by go_num,rfl,rfl,by rw [hne1.out],by rw [hzz.out.1],by rw [hzz.out.1,hn9],by rw [hzz.out.1,hdp.out];simp;omega,by omega,by omega,by simp;omega,hMd1.out,hkok1.out,hscan.out⟩
                 case measure=>simp [intOf];omega
               · have hor:c1≠48\/ndF M≠0:=by
                   rw [<-hnd.out];by_cases h48:c1.toNat=48
                   · right;intro e0;exact hz ⟨h48,e0⟩
                   · left;intro e0;exact h48 (by rw [e0];rfl)
                 obtain ⟨s1,s2,s3⟩:=ndF_snoc hor;rw [<-hnd.out] at s1 s2 s3;replace s1:=Hd s1;replace hor:=Hd hor;obtain ⟨dd,hdd⟩:∃dd:Nat,dd=dv c1:=⟨_,rfl⟩;have hd48:(c1.toNat:Int) - 48=(dd:Int):=by rw [hdd];unfold dv;omega
                 have hdd9:(dd:Int)<=9:=by omega
                 have m2:dp=((ndF (M++[c1]):Nat):Int) - ((j+1:Nat):Int):=by rw [s1.out];have:=hdp.out;omega
                 replace m2:=Hd m2;replace hdd:=Hd hdd;by_cases h19:nd<19
                 · obtain ⟨s4,s5⟩:=s2 h19
                   have hn9i:(n9:Int)<19:=by omega
                   have m1:min 19 (ndF (M++[c1]))=n9+1:=by rw [s1.out];omega
                   have hmt18:mt<1000000000000000000:=Nat.lt_of_lt_of_le hmt9.out (Nat.pow_le_pow_right (n:=10) (by decide) (show n9<=18 by omega));have hmti:(mt:Int)<=999999999999999999:=by omega
                   have m3:((mt * 10+dd:Nat):Int)=((A3 (M++[c1]):Nat):Int):=by rw [s4,hmt.out,hdd.out]
                   have m4:((mt * 10+dd:Nat):Int)=(mt:Int) * 10+(dd:Int):=by omega
                   replace m1:=Hd m1;replace m3:=Hd m3;replace m4:=Hd m4;replace s5:=Hd s5;clear s2 s3 s4 hn9 hdr hz;by_cases h48:c1.toNat=48
                   · have z1:((c1.toNat:Int) == 48)=true:=by simp;omega
                     have z2:((nd:Int) == 0)=false:=by
                       have:=hor.out;rcases this with h | h
                       · exact absurd (UInt8.toNat_inj.1 h48) h
                       · rw [<-hnd.out] at h;simp;omega
                     clear h48;go_wp2_with fail
                     go_round
                     case rel=>exact ⟨k+1,e,M++[c1],j+1,by rw [<-m3.out,m4.out],by rw [s5.out,htr.out],by go_num,rfl,rfl,by rw [hne1.out],by rw [s1.out];go_num,by rw [m1.out];go_num,by rw [<-m2.out],by omega,by omega,by simp;omega,hMd1.out,hkok1.out,hscan.out⟩
                     case measure=>simp [intOf];omega
                   · have z1:((c1.toNat:Int) == 48)=false:=by simp;omega
                     go_wp2_with fail
                     go_round
                     case rel=>exact ⟨k+1,e,M++[c1],j+1,by rw [<-m3.out,m4.out],by rw [s5.out,htr.out],by go_num,rfl,rfl,by rw [hne1.out],by rw [s1.out];go_num,by rw [m1.out];go_num,by rw [<-m2.out],by omega,by omega,by simp;omega,hMd1.out,hkok1.out,hscan.out⟩
                     case measure=>simp [intOf];omega
                 · obtain ⟨s4,s5⟩:=s3 (by omega)
                   have hn9i:¬(n9:Int)<19:=by omega
                   have m1:min 19 (ndF (M++[c1]))=n9:=by rw [s1.out];omega
                   have z2:((nd:Int) == 0)=false:=by simp;omega
                   have m3:((mt:Nat):Int)=((A3 (M++[c1]):Nat):Int):=by rw [s4,hmt.out]
                   replace m1:=Hd m1;replace m3:=Hd m3;clear s2 s3 s4 hn9 hdr hz;by_cases h48:c1.toNat=48
                   · have z1:((c1.toNat:Int) == 48)=true:=by simp;omega
                     have z3:((c1.toNat:Int) != 48)=false:=by simp;omega
                     have s6:Bf (M++[c1])=tr:=by rw [s5,htr.out,show (c1 != 48)=false by rw [UInt8.toNat_inj.1 (show c1.toNat=(48:UInt8).toNat from h48)];decide,Bool.or_false]
                     replace s6:=Hd s6;clear s5 h48;go_wp2_with fail
                     go_round
                     case rel=>exact ⟨k+1,e,M++[c1],j+1,by rw [<-m3.out],by rw [s6.out],by go_num,rfl,rfl,by rw [hne1.out],by rw [s1.out];go_num,by rw [m1.out],by rw [<-m2.out],by omega,by omega,by simp;omega,hMd1.out,hkok1.out,hscan.out⟩
                     case measure=>simp [intOf];omega
                   · have z1:((c1.toNat:Int) == 48)=false:=by simp;omega
                     have z3:((c1.toNat:Int) != 48)=true:=by simp;omega
                     have s6:Bf (M++[c1])=true:=by rw [s5,show (c1 != 48)=true by rw [bne_iff_ne];intro e0;exact h48 (by rw [e0];rfl),Bool.or_true]
                     replace s6:=Hd s6;clear s5;go_wp2_with fail
                     go_round
                     case rel=>exact ⟨k+1,e,M++[c1],j+1,by rw [<-m3.out],by rw [s6.out],by go_num,rfl,rfl,by rw [hne1.out],by rw [s1.out];go_num,by rw [m1.out],by rw [<-m2.out],by omega,by omega,by simp;omega,hMd1.out,hkok1.out,hscan.out⟩
                     case measure=>simp [intOf];omega
             · rw [if_neg hdg] at hscan
               simp only [Prod.mk.injEq] at hscan;obtain ⟨rfl,rfl,rfl,hr0⟩:=hscan;have h101:c1.toNat=101:=by
                 have hx:=hex.out;rw [<-hr0] at hx;cases hx<;>rfl
               have hKk:K=k:=by
                 have h1:=congrArg List.length hl.out;rw [List.length_drop,<-Aj,hr0] at h1;rw [hK.out];omega
               have r1:(48:Int)<=(c1.toNat:Int):=by omega
               have r2:¬(c1.toNat:Int)<=57:=by omega
               replace hr0:=Hd hr0;replace hKk:=Hd hKk;clear hlow1;go_wp2_with fail
               go_meet
               exact ⟨by rw [hmt.out],by rw [htr.out],by rw [hKk.out],rfl,rfl,by rw [hnz.out,decide_eq_true hne.out],by rw [hnd.out],by rw [hn19.out,<-hnd.out],by rw [hdp.out,hnd.out],rfl⟩
     case rest=>
       obtain ⟨rfl,rfl,rfl,rfl,rfl,rfl,rfl,rfl,rfl,hww⟩:=hcut;obtain rfl:=hww.symm;clear hww;obtain ⟨mt,hmt⟩:∃mt,mt=A3 L:=⟨_,rfl⟩;obtain ⟨tr,htr⟩:∃tr,tr=Bf L:=⟨_,rfl⟩;obtain ⟨nd,hnd⟩:∃nd,nd=ndF L:=⟨_,rfl⟩;obtain ⟨dp,hdp⟩:∃dp:Int,dp=(nd:Int) - m:=⟨_,rfl⟩;obtain ⟨dq,hdq⟩:∃dq:Int,dq=if d then dp else (nd:Int):=⟨_,rfl⟩;have hX:expF d L m x=if mt=0 then 0 else dq+x - (n19:Int):=by
         unfold expF;rw [<-hmt,<-hnd,<-hdp,hdq,hn19.out,hnd]
       rw [<-hmt,<-htr,<-hnd,<-hdp];have hLs:nd<=1000/\m<=1000:=by
         have h1:=C3 hsc.out;have h2:=congrArg List.length hda.out;rw [List.length_drop,<-Aj] at h2;have h3:nd<=L.length:=by rw [hnd];exact Co L
         simp only [List.length_nil] at h1;omega
       have hdp9:-1000<=dp/\dp<=1000:=by omega
       have hn199:n19<=19:=by rw [hn19.out];omega
       have hdq9:-1000<=dq/\dq<=1000:=by rw [hdq];split<;>omega
       replace hmt:=Hd hmt;replace htr:=Hd htr;replace hnd:=Hd hnd;replace hdp:=Hd hdp;replace hdq:=Hd hdq;replace hX:=Hd hX
       go_upto_if 142 with fail
       go_cut [17] from 142 to 142 (fun s17 wx=>s17=.int .i64 dq/\wx=w)
       case first=>
         cases d
         · have e1:dq=(nd:Int):=hdq.out
           replace e1:=Hd e1;go_wp2_with fail
           go_meet
           exact ⟨by rw [e1.out],rfl⟩
         · have e1:dq=dp:=hdq.out
           replace e1:=Hd e1;go_wp2_with fail
           go_meet
           exact ⟨by rw [e1.out],rfl⟩
       case rest=>
         obtain ⟨rfl,hww⟩:=hcut;obtain rfl:=hww.symm;clear hww;go_upto_region 57 with fail
         go_cut [161] from 150 to 161 (fun s161 wx=>s161=.bool (!rest.isEmpty)/\wx=w)
         case first=>
           cases hr:rest with
           | nil=>
             have hk1:=Cg (hr ▸ hKd.out.2);have hlt:¬(K:Int)<(s.size:Int):=by omega
             clear hk1;replace hr:=Hd hr;go_wp2_with fail
             go_meet
             exact ⟨by rw [hr.out];rfl,rfl⟩
           | cons c1 l1=>
             obtain ⟨hlt,hc1,_⟩:=Ah (hr ▸ hKd.out.2);have h101:c1.toNat=101:=by
               have hx:=hex.out;rw [hr] at hx;cases hx<;>rfl
             have hok1:okC c1:=.inr (.inr (.inl h101));have q1:((c1.toNat:Int) == 101)=true:=by simp [h101]
             have hlti:(K:Int)<(s.size:Int):=by omega
             replace hr:=Hd hr;replace hok1:=Hd hok1;clear h101;go_wp2_with fail
             refine (Gd hok1.out _).mono ?_;rintro e w' ⟨rfl,hww⟩;obtain rfl:=hww.symm;clear hww;go_wp2_with fail
             go_meet
             exact ⟨by rw [hr.out];rfl,rfl⟩
         case rest=>
           obtain ⟨rfl,hww⟩:=hcut;obtain rfl:=hww.symm;clear hww
           go_upto_if 161 with fail
           go_cut [7,9,17] from 161 to 239 (fun s7 s9 s17 wx=>s7=.int .i64 (s.size:Int)/\s9=.bool false/\s17=.int .i64 (dq+x)/\wx=w)
           case first=>
             have hx:=hex.out;have hK2:=hKd.out;clear hex hKd hX hsc;cases hx with
             | none=>
               have hk1:=Cg hK2.2;have hks:(K:Int)=(s.size:Int):=by omega
               replace hks:=Hd hks;clear hk1 hK2;go_wp2_with fail
               go_meet
               exact ⟨by rw [hks.out],rfl,by simp,rfl⟩
             | @bare E hEne hEd=>
               obtain ⟨hltK,hcK,hdK⟩:=Ah hK2.2;have hKi:(K:Int)+1=((K+1:Nat):Int):=by omega
               have hK9:(K:Int)<=1000:=by omega
               clear hK2;obtain ⟨q,hq⟩:∃q:Nat,q=K+1:=⟨_,rfl⟩;rw [<-hq] at hdK hKi;replace hq:=Hd hq;have hE0:s.data.toList.drop q=E:=hdK;cases hEE:E with
               | nil=>exact absurd hEE hEne
               | cons c2 E2=>
                 rw [hEE] at hE0;obtain ⟨hlt2,hc2,hd2⟩:=Ah hE0;have hg2:48<=c2.toNat/\c2.toNat<=57:=by
                   have:=hEd c2 (by rw [hEE];exact List.mem_cons_self ..);simp [isD] at this;exact this
                 have y0:((q:Nat):Int)<(s.size:Int):=by omega
                 have y1:¬(c2.toNat:Int)<48:=by omega
                 have y2:¬(57:Int)<(c2.toNat:Int):=by omega
                 have y3:((c2.toNat:Int) == 43)=false:=by simp;omega
                 have y4:((c2.toNat:Int) == 45)=false:=by simp;omega
                 rw [<-hEE] at hE0;have hqs:q+E.length=s.size:=by
                   have h1:=congrArg List.length hE0;rw [List.length_drop,<-Aj] at h1;omega
                 replace hE0:=Hd hE0;replace hEE:=Hd hEE;replace hEd:=Hd hEd;replace hEne:=Hd hEne;replace hd2:=Hd hd2;replace hqs:=Hd hqs;go_wp2_with fail
                 go_loop [7,9,20] (fun s7 s9 s20=>∃j:Nat,j<=E.length/\s7=.int .i64 ((q+j:Nat):Int)/\s9=.bool false/\s20=.int .i64 (capE (E.take j):Int)) (fun i _ _=>s.size - (intOf i).toNat)
                 case atStart=>exact ⟨0,Nat.zero_le _,rfl,rfl,rfl⟩
                 case round=>
                   obtain ⟨j,hj,rfl,rfl,rfl⟩:=hrel;obtain ⟨i,hi⟩:∃i:Nat,i=q+j:=⟨_,rfl⟩;obtain ⟨e,hee⟩:∃e:Nat,e=capE (E.take j):=⟨_,rfl⟩;have he9:e<100000:=by rw [hee];exact Cs (fun b hb=>hEd.out b (List.mem_of_mem_take hb))
                   rw [<-hi,<-hee];replace hi:=Hd hi;replace hee:=Hd hee;by_cases hjl:j<E.length
                   · have hdj:s.data.toList.drop i=E[j] :: E.drop (j+1):=by
                       rw [hi.out,<-List.drop_drop,hE0.out];exact List.drop_eq_getElem_cons hjl
                     obtain ⟨cj,hcj⟩:∃cj,cj=E[j]:=⟨_,rfl⟩;rw [<-hcj] at hdj;obtain ⟨hltj,hcj2,_⟩:=Ah hdj;have hgj:48<=cj.toNat/\cj.toNat<=57:=by
                       have:=hEd.out cj (by rw [hcj];exact List.getElem_mem hjl);simp [isD] at this;exact this
                     have x0:(i:Int)<(s.size:Int):=by omega
                     have x1:(48:Int)<=(cj.toNat:Int):=by omega
                     have x2:(cj.toNat:Int)<=57:=by omega
                     have x3:((cj.toNat:Int) == 95)=false:=by simp;omega
                     have x3' : ¬(cj.toNat:Int)=95:=by omega
                     have htk:E.take (j+1)=E.take j++[cj]:=by rw [List.take_succ_eq_append_getElem hjl,hcj]
                     have hcs:=Do (E.take j) cj;rw [<-htk,<-hee.out] at hcs;replace hcs:=Hd hcs;replace hdj:=Hd hdj;replace hcj:=Hd hcj;clear htk;by_cases hcap:e<10000
                     · have x4:(e:Int)<10000:=by omega
                       have x5:((capE (E.take (j+1)):Nat):Int)=(e:Int) * 10+(cj.toNat:Int) - 48:=by
                         rw [hcs.out,if_pos hcap];unfold dv;omega
                       replace x5:=Hd x5;go_wp2_with fail
                       go_round
                       case rel=>exact ⟨j+1,by omega,by rw [hi.out];go_num,rfl,by rw [x5.out]⟩
                       case measure=>have:=hi.out;have:=hqs.out;simp [intOf];omega
                     · have x4:¬(e:Int)<10000:=by omega
                       have x5:((capE (E.take (j+1)):Nat):Int)=(e:Int):=by rw [hcs.out,if_neg hcap]
                       replace x5:=Hd x5;go_wp2_with fail
                       go_round
                       case rel=>exact ⟨j+1,by omega,by rw [hi.out];go_num,rfl,by rw [x5.out]⟩
                       case measure=>have:=hi.out;have:=hqs.out;simp [intOf];omega
                   · have hje:j=E.length:=by omega
                     have his:s.size=i:=by rw [hi.out,hje];exact hqs.out.symm
                     have hce:e=capE E:=by rw [hee.out,hje,List.take_length]
                     have x0:¬(i:Int)<(s.size:Int):=by omega
                     have x6:(i:Int)=(s.size:Int):=by omega
                     replace his:=Hd his;replace hce:=Hd hce;replace x6:=Hd x6;clear hje;go_wp2_with fail
                     go_meet
                     exact ⟨by rw [x6.out],rfl,by rw [<-hce.out],rfl⟩
             | @plus E hEne hEd=>
               obtain ⟨hltK,hcK,hdK⟩:=Ah hK2.2;obtain ⟨hltK1,hcK1,hdK1⟩:=Ah hdK;have e43:((43:UInt8).toNat:Int)=43:=rfl;have hK9:(K:Int)<=998:=by omega
               have hK1i:(K:Int)+1<(s.size:Int):=by omega
               clear hK2;obtain ⟨q,hq⟩:∃q:Nat,q=K+1+1:=⟨_,rfl⟩;have hKi:(K:Int)+1+1=(q:Int):=by omega
               rw [<-hq] at hdK1;replace hq:=Hd hq;have hE0:s.data.toList.drop q=E:=hdK1;cases hEE:E with
               | nil=>exact absurd hEE hEne
               | cons c2 E2=>
                 rw [hEE] at hE0;obtain ⟨hlt2,hc2,hd2⟩:=Ah hE0;have hg2:48<=c2.toNat/\c2.toNat<=57:=by
                   have:=hEd c2 (by rw [hEE];exact List.mem_cons_self ..);simp [isD] at this;exact this
                 have y0:((q:Nat):Int)<(s.size:Int):=by omega
                 have y1:¬(c2.toNat:Int)<48:=by omega
                 have y2:¬(57:Int)<(c2.toNat:Int):=by omega
                 have y3:((c2.toNat:Int) == 43)=false:=by simp;omega
                 have y4:((c2.toNat:Int) == 45)=false:=by simp;omega
                 rw [<-hEE] at hE0;have hqs:q+E.length=s.size:=by
                   have h1:=congrArg List.length hE0;rw [List.length_drop,<-Aj] at h1;omega
                 replace hE0:=Hd hE0;replace hEE:=Hd hEE;replace hEd:=Hd hEd;replace hEne:=Hd hEne;replace hd2:=Hd hd2;replace hqs:=Hd hqs;go_wp2_with fail
                 go_loop [7,9,20] (fun s7 s9 s20=>∃j:Nat,j<=E.length/\s7=.int .i64 ((q+j:Nat):Int)/\s9=.bool false/\s20=.int .i64 (capE (E.take j):Int)) (fun i _ _=>s.size - (intOf i).toNat)
                 case atStart=>exact ⟨0,Nat.zero_le _,rfl,rfl,rfl⟩
                 case round=>
                   obtain ⟨j,hj,rfl,rfl,rfl⟩:=hrel;obtain ⟨i,hi⟩:∃i:Nat,i=q+j:=⟨_,rfl⟩;obtain ⟨e,hee⟩:∃e:Nat,e=capE (E.take j):=⟨_,rfl⟩;have he9:e<100000:=by rw [hee];exact Cs (fun b hb=>hEd.out b (List.mem_of_mem_take hb))
                   rw [<-hi,<-hee];replace hi:=Hd hi;replace hee:=Hd hee;by_cases hjl:j<E.length
                   · have hdj:s.data.toList.drop i=E[j] :: E.drop (j+1):=by
                       rw [hi.out,<-List.drop_drop,hE0.out];exact List.drop_eq_getElem_cons hjl
                     obtain ⟨cj,hcj⟩:∃cj,cj=E[j]:=⟨_,rfl⟩;rw [<-hcj] at hdj;obtain ⟨hltj,hcj2,_⟩:=Ah hdj;have hgj:48<=cj.toNat/\cj.toNat<=57:=by
                       have:=hEd.out cj (by rw [hcj];exact List.getElem_mem hjl);simp [isD] at this;exact this
                     have x0:(i:Int)<(s.size:Int):=by omega
                     have x1:(48:Int)<=(cj.toNat:Int):=by omega
                     have x2:(cj.toNat:Int)<=57:=by omega
                     have x3:((cj.toNat:Int) == 95)=false:=by simp;omega
                     have x3' : ¬(cj.toNat:Int)=95:=by omega
                     have htk:E.take (j+1)=E.take j++[cj]:=by rw [List.take_succ_eq_append_getElem hjl,hcj]
                     have hcs:=Do (E.take j) cj;rw [<-htk,<-hee.out] at hcs;replace hcs:=Hd hcs;replace hdj:=Hd hdj;replace hcj:=Hd hcj;clear htk;by_cases hcap:e<10000
                     · have x4:(e:Int)<10000:=by omega
                       have x5:((capE (E.take (j+1)):Nat):Int)=(e:Int) * 10+(cj.toNat:Int) - 48:=by
                         rw [hcs.out,if_pos hcap];unfold dv;omega
                       replace x5:=Hd x5;go_wp2_with fail
                       go_round
                       case rel=>exact ⟨j+1,by omega,by rw [hi.out];go_num,rfl,by rw [x5.out]⟩
                       case measure=>have:=hi.out;have:=hqs.out;simp [intOf];omega
                     · have x4:¬(e:Int)<10000:=by omega
                       have x5:((capE (E.take (j+1)):Nat):Int)=(e:Int):=by rw [hcs.out,if_neg hcap]
                       replace x5:=Hd x5;go_wp2_with fail
                       go_round
                       case rel=>exact ⟨j+1,by omega,by rw [hi.out];go_num,rfl,by rw [x5.out]⟩
                       case measure=>have:=hi.out;have:=hqs.out;simp [intOf];omega
                   · have hje:j=E.length:=by omega
                     have his:s.size=i:=by rw [hi.out,hje];exact hqs.out.symm
                     have hce:e=capE E:=by rw [hee.out,hje,List.take_length]
                     have x0:¬(i:Int)<(s.size:Int):=by omega
                     have x6:(i:Int)=(s.size:Int):=by omega
                     replace his:=Hd his;replace hce:=Hd hce;replace x6:=Hd x6;clear hje;go_wp2_with fail
                     go_meet
                     exact ⟨by rw [x6.out],rfl,by rw [<-hce.out],rfl⟩
             | @minus E hEne hEd=>
               obtain ⟨hltK,hcK,hdK⟩:=Ah hK2.2;obtain ⟨hltK1,hcK1,hdK1⟩:=Ah hdK;have e43:((45:UInt8).toNat:Int)=45:=rfl;have hK9:(K:Int)<=998:=by omega
               have hK1i:(K:Int)+1<(s.size:Int):=by omega
               clear hK2;obtain ⟨q,hq⟩:∃q:Nat,q=K+1+1:=⟨_,rfl⟩;have hKi:(K:Int)+1+1=(q:Int):=by omega
               rw [<-hq] at hdK1;replace hq:=Hd hq;have hE0:s.data.toList.drop q=E:=hdK1;cases hEE:E with
               | nil=>exact absurd hEE hEne
               | cons c2 E2=>
                 rw [hEE] at hE0;obtain ⟨hlt2,hc2,hd2⟩:=Ah hE0;have hg2:48<=c2.toNat/\c2.toNat<=57:=by
                   have:=hEd c2 (by rw [hEE];exact List.mem_cons_self ..);simp [isD] at this;exact this
                 have y0:((q:Nat):Int)<(s.size:Int):=by omega
                 have y1:¬(c2.toNat:Int)<48:=by omega
                 have y2:¬(57:Int)<(c2.toNat:Int):=by omega
                 have y3:((c2.toNat:Int) == 43)=false:=by simp;omega
                 have y4:((c2.toNat:Int) == 45)=false:=by simp;omega
                 rw [<-hEE] at hE0;have hqs:q+E.length=s.size:=by
                   have h1:=congrArg List.length hE0;rw [List.length_drop,<-Aj] at h1;omega
                 replace hE0:=Hd hE0;replace hEE:=Hd hEE;replace hEd:=Hd hEd;replace hEne:=Hd hEne;replace hd2:=Hd hd2;replace hqs:=Hd hqs;go_wp2_with fail
                 go_loop [7,9,20] (fun s7 s9 s20=>∃j:Nat,j<=E.length/\s7=.int .i64 ((q+j:Nat):Int)/\s9=.bool false/\s20=.int .i64 (capE (E.take j):Int)) (fun i _ _=>s.size - (intOf i).toNat)
                 case atStart=>exact ⟨0,Nat.zero_le _,rfl,rfl,rfl⟩
                 case round=>
                   obtain ⟨j,hj,rfl,rfl,rfl⟩:=hrel;obtain ⟨i,hi⟩:∃i:Nat,i=q+j:=⟨_,rfl⟩;obtain ⟨e,hee⟩:∃e:Nat,e=capE (E.take j):=⟨_,rfl⟩;have he9:e<100000:=by rw [hee];exact Cs (fun b hb=>hEd.out b (List.mem_of_mem_take hb))
                   rw [<-hi,<-hee];replace hi:=Hd hi;replace hee:=Hd hee;by_cases hjl:j<E.length
                   · have hdj:s.data.toList.drop i=E[j] :: E.drop (j+1):=by
                       rw [hi.out,<-List.drop_drop,hE0.out];exact List.drop_eq_getElem_cons hjl
                     obtain ⟨cj,hcj⟩:∃cj,cj=E[j]:=⟨_,rfl⟩;rw [<-hcj] at hdj;obtain ⟨hltj,hcj2,_⟩:=Ah hdj;have hgj:48<=cj.toNat/\cj.toNat<=57:=by
                       have:=hEd.out cj (by rw [hcj];exact List.getElem_mem hjl);simp [isD] at this;exact this
                     have x0:(i:Int)<(s.size:Int):=by omega
                     have x1:(48:Int)<=(cj.toNat:Int):=by omega
                     have x2:(cj.toNat:Int)<=57:=by omega
                     have x3:((cj.toNat:Int) == 95)=false:=by simp;omega
                     have x3' : ¬(cj.toNat:Int)=95:=by omega
                     have htk:E.take (j+1)=E.take j++[cj]:=by rw [List.take_succ_eq_append_getElem hjl,hcj]
                     have hcs:=Do (E.take j) cj;rw [<-htk,<-hee.out] at hcs;replace hcs:=Hd hcs;replace hdj:=Hd hdj;replace hcj:=Hd hcj;clear htk;by_cases hcap:e<10000
                     · have x4:(e:Int)<10000:=by omega
                       have x5:((capE (E.take (j+1)):Nat):Int)=(e:Int) * 10+(cj.toNat:Int) - 48:=by
                         rw [hcs.out,if_pos hcap];unfold dv;omega
                       replace x5:=Hd x5;go_wp2_with fail
                       go_round
                       case rel=>exact ⟨j+1,by omega,by rw [hi.out];go_num,rfl,by rw [x5.out]⟩
                       case measure=>have:=hi.out;have:=hqs.out;simp [intOf];omega
                     · have x4:¬(e:Int)<10000:=by omega
                       have x5:((capE (E.take (j+1)):Nat):Int)=(e:Int):=by rw [hcs.out,if_neg hcap]
                       replace x5:=Hd x5;go_wp2_with fail
                       go_round
                       case rel=>exact ⟨j+1,by omega,by rw [hi.out];go_num,rfl,by rw [x5.out]⟩
                       case measure=>have:=hi.out;have:=hqs.out;simp [intOf];omega
                   · have hje:j=E.length:=by omega
                     have his:s.size=i:=by rw [hi.out,hje];exact hqs.out.symm
                     have hce:e=capE E:=by rw [hee.out,hje,List.take_length]
                     have x0:¬(i:Int)<(s.size:Int):=by omega
                     have x6:(i:Int)=(s.size:Int):=by omega
                     replace his:=Hd his;replace hce:=Hd hce;replace x6:=Hd x6;clear hje;go_wp2_with fail
                     go_meet
                     exact ⟨by rw [x6.out],rfl,by rw [<-hce.out],rfl⟩
           case rest=>
             obtain ⟨rfl,rfl,rfl,hww⟩:=hcut;obtain rfl:=hww.symm;clear hww;have hx9:-100000<=x/\x<=100000:=by
               have hx:=hex.out;clear hex hKd hX hsc;cases hx with
               | none=>omega
               | bare h1 h2=>have:=Cs h2;omega
               | plus h1 h2=>have:=Cs h2;omega
               | minus h1 h2=>have:=Cs h2;omega
             by_cases hm0:mt=0
             · have hXe:expF d L m x=0:=by rw [hX.out,if_pos hm0]
               replace hXe:=Hd hXe;subst hm0;go_wp2_with fail
               exact bodyPost_ret (v:=.tuple #[.int .u64 0,.int .i64 0,.bool neg,.bool tr,.bool false,.int .i64 (s.size:Int),.bool true]) (by simp [results,Tryz.results202,go_sem]) rfl ⟨by rw [hXe.out,<-hmt.out,<-htr.out];rfl,rfl⟩
             · have hXe:dq+x - (n19:Int)=expF d L m x:=by rw [hX.out,if_neg hm0]
               have hmz:((mt:Int) != 0)=true:=by simp;omega
               replace hXe:=Hd hXe;go_wp2_with fail
               rw [Exit.noGoto_ret];exact bodyPost_ret (v:=.tuple #[.int .u64 (mt:Int),.int .i64 (dq+x - (n19:Int)),.bool neg,.bool tr,.bool false,.int .i64 (s.size:Int),.bool true]) (by simp [results,Tryz.results202,go_sem]) rfl ⟨by rw [hXe.out,<-hmt.out,<-htr.out],rfl⟩
end Go.Proofs.YtagkgfniihiinaaGreatDoor
