/- internal/strconv.readFloat. -/
import Derived.Test.YtagkgfniihiinaaGreatDoorJ83
import Derived.Test.YtagkgfniihiinaaGreatDoorJ56
import Derived.Test.YtagkgfniihiinaaGreatDoorShelf
import Derived.Deep.DeepCutAuto
import Derived.Deep.CutBlock
set_option linter.all false
namespace Go.Proofs.YtagkgfniihiinaaGreatDoor
open Go.RowKit
theorem low_fin:∀c:Fin 256,(okC (UInt8.ofNat c.val)->bits .or .u8 (c.val:Int) 32=(c.val:Int)):=by
 intro c h;have a:∀c:Fin 256,((isD (UInt8.ofNat c.val) || (UInt8.ofNat c.val).toNat == 46 || (UInt8.ofNat c.val).toNat == 101 || (UInt8.ofNat c.val).toNat == 43 || (UInt8.ofNat c.val).toNat == 45)->bits .or .u8 (c.val:Int) 32=(c.val:Int)):=by decide +kernel
 refine a c ?_;simp only [Bool.or_eq_true,beq_iff_eq];rcases h with h | h | h | h | h
 ·exact .inl (.inl (.inl (.inl h)))
 ·exact .inl (.inl (.inl (.inr h)))
 ·exact .inl (.inl (.inr h))
 ·exact .inl (.inr h)
 ·exact .inr h
theorem lower_ok {c:UInt8} (h:okC c) (w:World):Calls Tryz.prog 170 #[.int .u8 (c.toNat:Int)] w fun e w' => e=.returned (.int .u8 (c.toNat:Int))/\w' = w:=by
 have h1:=low_fin ⟨c.toNat,c.toNat_lt⟩ (by simpa using h);have h2:=Tryz.internal_strconv_lower (c.toNat:Int) w;rw [show bits .or .u8 (c.toNat:Int) 32=(c.toNat:Int) from h1] at h2;exact h2
theorem Ag {s:ByteArray} {k:Nat} {c:UInt8} {l:List UInt8} (h:s.data.toList.drop k=c :: l):∃hlt:k<s.size,s[k]'hlt=c/\s.data.toList.drop (k+1)=l:=by
 have hl:k<s.data.toList.length:=by
  rcases Nat.lt_or_ge k s.data.toList.length with h1 | h1
  ·exact h1
  ·rw [List.drop_of_length_le h1] at h;cases h
 have hlt:k<s.size:=by rw [Array.length_toList] at hl;exact hl
 rw [List.drop_eq_getElem_cons hl] at h;simp only [List.cons.injEq] at h;refine ⟨hlt,?_,h.2⟩;have h1:=Lib.data_getElem? s k hlt;rw [List.getElem?_eq_getElem hl,h.1] at h1;exact (Option.some.inj h1).symm
theorem Cq {s:ByteArray} {k:Nat} (h:s.data.toList.drop k=[]):s.size<=k:=by
 have:=List.drop_eq_nil_iff.1 h;rw [Array.length_toList] at this;exact this
theorem Ai (s:ByteArray):s.size=s.data.toList.length:=by rw [Array.length_toList];rfl
set_option maxRecDepth 100000 in
set_option maxHeartbeats 6400000 in
theorem C7 {s:ByteArray} {neg d:Bool} {L:List UInt8} {m:Nat} {x:Int} (h:FTxt s neg d L m x) (w:World) :
  Calls Tryz.prog 202 #[.string s] w fun e w' => e=.returned (.tuple #[.int .u64 (Av L:Int),.int .i64 (expF d L m x),.bool neg,.bool (Bd L),.bool false,.int .i64 (s.size:Int),.bool true])/\w' = w:=by
 obtain ⟨⟨c,a4,rest,hs,hc,au,ae,a5⟩,hsz,ba⟩:=h;replace ba:=Hd ba;have bb:=fun (b:UInt8) (h:okC b) (w:World)=>lower_ok h w;obtain ⟨a,ha⟩:∃a:Nat,a=if neg then 1 else 0:=⟨_,rfl⟩;have an:s.data.toList.drop a=c :: a4:=by
  rw [hs,ha];cases neg<;>rfl
 obtain ⟨halt,a6,ay⟩:=Ag an;have av:0<s.size:=by omega
 obtain ⟨c0,hc0⟩:∃c0:UInt8,s[0]'av=c0:=⟨_,rfl⟩;have aw:(neg=true/\a=1/\(c0.toNat:Int)=45)\/(neg=false/\a=0/\c0=c):=by
  cases neg with
  | true=>
   left;refine ⟨rfl,ha,?_⟩;have h1:=Lib.data_getElem? s 0 av;rw [hs,hc0] at h1;have h2:c0=45:=(Option.some.inj h1).symm;rw [h2];rfl
  | false=>
   right;have b4:a=0:=ha;subst b4;exact ⟨rfl,rfl,hc0.symm.trans a6⟩
 have h0lti:(0:Int)<(s.size:Int):=by omega
 have bm:¬s=ByteArray.empty:=fun e=>by rw [Ai,e] at av;exact absurd av (by decide)
 have hsne2:decide (s=ByteArray.empty)=false:=decide_eq_false bm;have hsz9:(s.size:Int)<=1000:=by omega
 have ha1:a<=1:=by rw [ha];split<;>omega
 have hc9:48<=c.toNat/\c.toNat<=57:=by simp [isD] at hc;exact hc
 have bc:okC c:=a5 c (List.mem_cons_self ..);replace hs:=Hd hs;replace aw:=Hd aw;replace ha:=Hd ha;have bn:=a6;replace a6:=Hd a6;clear bn;replace au:=Hd au;replace ae:=Hd ae;replace a5:=Hd a5;replace bc:=Hd bc;replace hc:=Hd hc;replace bb:=Hd bb;replace an:=Hd an;replace ay:=Hd ay
 go_enter Tryz.func202,Tryz.ntmps202
 go_wp2_with fail
 go_step3
 go_upto_block 0 with fail
 go_cut [4,7] from 26 to 35 (fun s4 s7 wx=>s4=.bool neg/\s7=.int .i64 (a:Int)/\wx=w)
 case first=>
  rcases aw.out with ⟨e1,e2,e3⟩ | ⟨e1,e2,e3⟩
  ·subst e1
   subst e2;go_wp2_with fail
   go_meet
   exact ⟨rfl,rfl,rfl⟩
  ·subst e1
   subst e2;subst e3;have k1:¬(c0.toNat:Int)=43:=by omega
   have k2:¬(c0.toNat:Int)=45:=by omega
   have k3:((c0.toNat:Int) == 43)=false:=by simpa using k1
   have k4:((c0.toNat:Int) == 45)=false:=by simpa using k2
   go_wp2_with fail
   go_meet
   exact ⟨rfl,rfl,rfl⟩
 case rest=>
  obtain ⟨rfl,rfl,o⟩:=hcut;obtain rfl:=o.symm;clear o aw hc0;have halti:(a:Int)<(s.size:Int):=by omega
  have hca' := a6.out;go_upto_region 12 with fail
  go_cut [54] from 36 to 54 (fun s54 wx=>s54=.bool false/\wx=w)
  case first=>
   by_cases h2:a+2<s.size
   ·have b5:(a:Int)+2<(s.size:Int):=by omega
    by_cases h48:c.toNat=48
    ·have k0:((c.toNat:Int) == 48)=true:=by simp [h48]
     have h1i:(a:Int)+1<(s.size:Int):=by omega
     cases hb:a4 with
     | nil=>
      have:=Cq (hb ▸ ay.out);omega
     | cons c1 body1=>
      obtain ⟨hlt1,b0,_⟩:=Ag (hb ▸ ay.out);have z:okC c1:=a5.out c1 (by rw [hb];simp);have hn:=okC_low z;have k1:((c1.toNat:Int) == 120)=false:=by simp;omega
      replace z:=Hd z;replace hb:=Hd hb;clear hn;go_wp2_with fail
      refine (lower_ok z.out _).mono ?_;rintro e w' ⟨rfl,o⟩;obtain rfl:=o.symm;clear o;go_wp2_with fail
      go_meet
      exact ⟨rfl,rfl⟩
    ·have k0:((c.toNat:Int) == 48)=false:=by simp;omega
     go_wp2_with fail
     go_meet
     exact ⟨rfl,rfl⟩
   ·have b5:¬(a:Int)+2<(s.size:Int):=by omega
    go_wp2_with fail
    go_meet
    exact ⟨rfl,rfl⟩
  case rest=>
   obtain ⟨rfl,o⟩:=hcut;obtain rfl:=o.symm;clear o;go_wp2_with fail
   go_step3
   go_upto_block 1 with fail
   obtain ⟨K,hK⟩:∃K:Nat,K=s.size - rest.length:=⟨_,rfl⟩;have a1:∃p,c :: a4=p++rest:=Ek au.out;have ao:K<=s.size/\s.data.toList.drop K=rest:=by
    obtain ⟨p,hp⟩:=a1;have h1:s.data.toList=(s.data.toList.take a++p)++rest:=by
     rw [List.append_assoc,<-hp,<-an.out,List.take_append_drop]
    have h2:=congrArg List.length h1;rw [<-Ai,List.length_append] at h2;have h3:K=(s.data.toList.take a++p).length:=by omega
    refine ⟨by omega,?_⟩;rw [h3];have h4:∀A B:List UInt8,(A++B).drop A.length=B:=fun A B=>List.drop_left ..;have h5:=h4 (s.data.toList.take a++p) rest;rw [<-h1] at h5;exact h5
   obtain ⟨n19,hn19⟩:∃n19:Nat,n19=min 19 (ndF L):=⟨_,rfl⟩;replace hK:=Hd hK;replace ao:=Hd ao;replace hn19:=Hd hn19;clear a1
   go_cut [2,5,7,9,13,14,15,16,17] from 57 to 138 (fun s2 s5 s7 s9 s13 s14 s15 s16 s17 wx=>s2=.int .u64 (Av L:Int)/\s5=.bool (Bd L)/\s7=.int .i64 (K:Int)/\s9=.bool false/\s13=.bool d/\s14=.bool true/\s15=.int .i64 (ndF L:Int)/\s16=.int .i64 (n19:Int)/\s17=.int .i64 ((ndF L:Int) - m)/\wx=w)
   case first=>
    go_wp2_with fail
    go_loop [2,5,7,9,13,14,15,16,17] (fun s2 s5 s7 s9 s13 s14 s15 s16 s17=>∃(k:Nat) (e:Bool) (M:List UInt8) (j:Nat),s2=.int .u64 (Av M:Int)/\s5=.bool (Bd M)/\s7=.int .i64 (k:Int)/\s9=.bool false/\s13=.bool e/\s14=.bool (decide (M≠[]))/\s15=.int .i64 (ndF M:Int)/\s16=.int .i64 ((min 19 (ndF M):Nat):Int)/\s17=.int .i64 ((ndF M:Int) - j) /\
      k<=s.size/\j<=k/\M.length<=k/\(∀b∈M,isD b=true)/\(∀b∈s.data.toList.drop k,okC b)/\Cg (s.data.toList.drop k) e M j=(d,L,m,rest)) (fun _ _ i _ _ _ _ _ _=>s.size - (intOf i).toNat)
    case atStart=>
     exact ⟨a,false,[],0,rfl,rfl,rfl,rfl,rfl,rfl,rfl,rfl,rfl,by omega,Nat.zero_le _,Nat.zero_le _,fun b hb=>by simp at hb,fun b hb=>a5.out b (by rw [<-an.out];exact hb),by rw [an.out];exact au.out⟩
    case round=>
     obtain ⟨k,e,M,j,rfl,rfl,rfl,rfl,rfl,rfl,rfl,rfl,rfl,hk,hjk,hMk,a7,az,f⟩:=hrel;obtain ⟨mt,hmt⟩:∃mt,mt=Av M:=⟨_,rfl⟩;obtain ⟨tr,htr⟩:∃tr,tr=Bd M:=⟨_,rfl⟩;obtain ⟨nd,hnd⟩:∃nd,nd=ndF M:=⟨_,rfl⟩;obtain ⟨n9,hn9⟩:∃n9,n9=min 19 nd:=⟨_,rfl⟩;obtain ⟨dp,hdp⟩:∃dp:Int,dp=(nd:Int) - j:=⟨_,rfl⟩;obtain ⟨nz,hnz⟩:∃nz:Bool,nz=decide (M≠[]):=⟨_,rfl⟩;have hndM:nd<=M.length:=by rw [hnd];exact C3 M
     have af:=mantF_lt (l:=M) a7;rw [<-hmt,<-hnd,<-hn9] at af;have hmtl:mt<10000000000000000000:=Nat.lt_of_lt_of_le af (Nat.pow_le_pow_right (n:=10) (by decide) (show n9<=19 by omega));rw [<-hnd,<-hmt,<-htr,<-hn9,<-hdp,<-hnz];have hdpb:-1000<=dp/\dp<=1000:=by omega
     have hnd9:nd<=1000:=by omega
     replace af:=Hd af;replace hmt:=Hd hmt;replace htr:=Hd htr;replace hnd:=Hd hnd;replace hdp:=Hd hdp;replace hnz:=Hd hnz;replace a7:=Hd a7;replace az:=Hd az;cases hl:s.data.toList.drop k with
     | nil=>
      have a2:=Cq hl;have bo:s.size=k:=by omega
      rw [hl,Cg] at f;simp only [Prod.mk.injEq] at f;obtain ⟨rfl,rfl,rfl,ak⟩:=f;have ap:K=k:=by rw [hK.out,<-ak];simp;omega
      have bd:¬(k:Int)<(s.size:Int):=by omega
      replace hl:=Hd hl;replace ak:=Hd ak;replace bo:=Hd bo;replace ap:=Hd ap;clear a2;go_wp2_with fail
      go_meet
      exact ⟨by rw [hmt.out],by rw [htr.out],by rw [ap.out],rfl,rfl,by rw [hnz.out,decide_eq_true ba.out],by rw [hnd.out],by rw [hn19.out,<-hnd.out],by rw [hdp.out,hnd.out],rfl⟩
     | cons c1 l1=>
      obtain ⟨bs,b0,a8⟩:=Ag hl;have bd:(k:Int)<(s.size:Int):=by omega
      have bi:okC c1:=az.out c1 (by rw [hl];exact List.mem_cons_self ..);have aq:=okC_low bi;have q95:((c1.toNat:Int) == 95)=false:=by simp;omega
      have r:∀b∈s.data.toList.drop (k+1),okC b:=fun b hb=>az.out b (by rw [hl];rw [a8] at hb;exact List.mem_cons_of_mem _ hb);have hc256:c1.toNat<256:=c1.toNat_lt;rw [hl,Cg] at f;replace r:=Hd r;replace a8:=Hd a8;replace hl:=Hd hl;by_cases h46:c1.toNat=46
      ·rw [if_pos h46] at f
       have b6:((c1.toNat:Int) == 46)=true:=by simp;omega
       have bp : (c1.toNat:Int)=46:=by omega
       cases e with
       | true=>
        exfalso;simp only [if_true,Prod.mk.injEq] at f;have hx:=ae.out;rw [<-f.2.2.2] at hx;cases hx<;>(revert h46;decide)
       | false=>
        rw [if_neg (by decide),<-a8.out] at f;replace f:=Hd f;clear aq;go_wp2_with fail
        go_round
        case rel=>exact ⟨k+1,true,M,0,by rw [hmt.out],by rw [htr.out],by go_num,rfl,rfl,by rw [hnz.out],by rw [hnd.out],by rw [<-hnd.out,hn9],by rw [hnd.out];simp,by omega,by omega,by omega,a7.out,r.out,f.out⟩
        case measure=>simp [intOf];omega
      ·rw [if_neg h46] at f
       have b6:((c1.toNat:Int) == 46)=false:=by simp;omega
       have bp : ¬(c1.toNat:Int)=46:=by omega
       by_cases hdg:isD c1=true
       ·rw [if_pos hdg,<-a8.out] at f
        have bq:48<=c1.toNat/\c1.toNat<=57:=by simp [isD] at hdg;exact hdg
        have r1:(48:Int)<=(c1.toNat:Int):=by omega
        have r2:(c1.toNat:Int)<=57:=by omega
        have aa:∀b∈M++[c1],isD b=true:=fun b hb=>by
         rw [List.mem_append,List.mem_singleton] at hb;rcases hb with hb | hb
         ·exact a7.out b hb
         ·rw [hb];exact hdg
        replace aa:=Hd aa;replace f:=Hd f;have ab:decide (M++[c1]≠[])=true:=decide_eq_true (by simp);replace ab:=Hd ab;clear aq;by_cases hz:c1.toNat=48/\nd=0
        ·have z1:((c1.toNat:Int) == 48)=true:=by simp;omega
         have z2:((nd:Int) == 0)=true:=by simp;omega
         have a3:c1=48:=UInt8.toNat_inj.1 hz.1;have ag:=ndF_zero (l:=M) (by rw [<-hnd.out];exact hz.2);rw [<-a3] at ag;replace ag:=Hd ag;replace a3:=Hd a3;obtain ⟨b8,b9⟩:=hz;have z3:(c1.toNat:Int)=48:=by omega
         clear b8;subst b9;go_wp2_with fail
         go_round
         case rel=>exact ⟨k+1,e,M++[c1],j+1,by rw [ag.out.2.1,hmt.out],by rw [ag.out.2.2,htr.out],by go_num,rfl,rfl,by rw [ab.out],by rw [ag.out.1],by rw [ag.out.1,hn9],by rw [ag.out.1,hdp.out];simp;omega,by omega,by omega,by simp;omega,aa.out,r.out,f.out⟩
         case measure=>simp [intOf];omega
        ·have a9:c1≠48\/ndF M≠0:=by
          rw [<-hnd.out];by_cases h48:c1.toNat=48
          ·right;intro e0;exact hz ⟨h48,e0⟩
          ·left;intro e0;exact h48 (by rw [e0];rfl)
         obtain ⟨s1,s2,s3⟩:=ndF_snoc a9;rw [<-hnd.out] at s1 s2 s3;replace s1:=Hd s1;replace a9:=Hd a9;obtain ⟨dd,hdd⟩:∃dd:Nat,dd=dv c1:=⟨_,rfl⟩;have hd48:(c1.toNat:Int) - 48=(dd:Int):=by rw [hdd];unfold dv;omega
         have hdd9:(dd:Int)<=9:=by omega
         have m2:dp=((ndF (M++[c1]):Nat):Int) - ((j+1:Nat):Int):=by rw [s1.out];have:=hdp.out;omega
         replace m2:=Hd m2;replace hdd:=Hd hdd;by_cases h19:nd<19
         ·obtain ⟨s4,s5⟩:=s2 h19
          have br:(n9:Int)<19:=by omega
          have m1:min 19 (ndF (M++[c1]))=n9+1:=by rw [s1.out];omega
          have hmt18:mt<1000000000000000000:=Nat.lt_of_lt_of_le af.out (Nat.pow_le_pow_right (n:=10) (by decide) (show n9<=18 by omega));have hmti:(mt:Int)<=999999999999999999:=by omega
          have m3:((mt * 10+dd:Nat):Int)=((Av (M++[c1]):Nat):Int):=by rw [s4,hmt.out,hdd.out]
          have m4:((mt * 10+dd:Nat):Int)=(mt:Int) * 10+(dd:Int):=by omega
          replace m1:=Hd m1;replace m3:=Hd m3;replace m4:=Hd m4;replace s5:=Hd s5;clear s2 s3 s4 hn9 bq hz;by_cases h48:c1.toNat=48
          ·have z1:((c1.toNat:Int) == 48)=true:=by simp;omega
           have z2:((nd:Int) == 0)=false:=by
            have:=a9.out;rcases this with h | h
            ·exact absurd (UInt8.toNat_inj.1 h48) h
            ·rw [<-hnd.out] at h;simp;omega
           clear h48;go_wp2_with fail
           go_round
           case rel=>exact ⟨k+1,e,M++[c1],j+1,by rw [<-m3.out,m4.out],by rw [s5.out,htr.out],by go_num,rfl,rfl,by rw [ab.out],by rw [s1.out];go_num,by rw [m1.out];go_num,by rw [<-m2.out],by omega,by omega,by simp;omega,aa.out,r.out,f.out⟩
           case measure=>simp [intOf];omega
          ·have z1:((c1.toNat:Int) == 48)=false:=by simp;omega
           go_wp2_with fail
           go_round
           case rel=>exact ⟨k+1,e,M++[c1],j+1,by rw [<-m3.out,m4.out],by rw [s5.out,htr.out],by go_num,rfl,rfl,by rw [ab.out],by rw [s1.out];go_num,by rw [m1.out];go_num,by rw [<-m2.out],by omega,by omega,by simp;omega,aa.out,r.out,f.out⟩
           case measure=>simp [intOf];omega
         ·obtain ⟨s4,s5⟩:=s3 (by omega)
          have br:¬(n9:Int)<19:=by omega
          have m1:min 19 (ndF (M++[c1]))=n9:=by rw [s1.out];omega
          have z2:((nd:Int) == 0)=false:=by simp;omega
          have m3:((mt:Nat):Int)=((Av (M++[c1]):Nat):Int):=by rw [s4,hmt.out]
          replace m1:=Hd m1;replace m3:=Hd m3;clear s2 s3 s4 hn9 bq hz;by_cases h48:c1.toNat=48
          ·have z1:((c1.toNat:Int) == 48)=true:=by simp;omega
           have z3:((c1.toNat:Int) != 48)=false:=by simp;omega
           have s6:Bd (M++[c1])=tr:=by rw [s5,htr.out,show (c1 != 48)=false by rw [UInt8.toNat_inj.1 (show c1.toNat=(48:UInt8).toNat from h48)];decide,Bool.or_false]
           replace s6:=Hd s6;clear s5 h48;go_wp2_with fail
           go_round
           case rel=>exact ⟨k+1,e,M++[c1],j+1,by rw [<-m3.out],by rw [s6.out],by go_num,rfl,rfl,by rw [ab.out],by rw [s1.out];go_num,by rw [m1.out],by rw [<-m2.out],by omega,by omega,by simp;omega,aa.out,r.out,f.out⟩
           case measure=>simp [intOf];omega
          ·have z1:((c1.toNat:Int) == 48)=false:=by simp;omega
           have z3:((c1.toNat:Int) != 48)=true:=by simp;omega
           have s6:Bd (M++[c1])=true:=by rw [s5,show (c1 != 48)=true by rw [bne_iff_ne];intro e0;exact h48 (by rw [e0];rfl),Bool.or_true]
           replace s6:=Hd s6;clear s5;go_wp2_with fail
           go_round
           case rel=>exact ⟨k+1,e,M++[c1],j+1,by rw [<-m3.out],by rw [s6.out],by go_num,rfl,rfl,by rw [ab.out],by rw [s1.out];go_num,by rw [m1.out],by rw [<-m2.out],by omega,by omega,by simp;omega,aa.out,r.out,f.out⟩
           case measure=>simp [intOf];omega
       ·rw [if_neg hdg] at f
        simp only [Prod.mk.injEq] at f;obtain ⟨rfl,rfl,rfl,ak⟩:=f;have ax:c1.toNat=101:=by
         have hx:=ae.out;rw [<-ak] at hx;cases hx<;>rfl
        have ap:K=k:=by
         have h1:=congrArg List.length hl.out;rw [List.length_drop,<-Ai,ak] at h1;rw [hK.out];omega
        have r1:(48:Int)<=(c1.toNat:Int):=by omega
        have r2:¬(c1.toNat:Int)<=57:=by omega
        replace ak:=Hd ak;replace ap:=Hd ap;clear aq;go_wp2_with fail
        go_meet
        exact ⟨by rw [hmt.out],by rw [htr.out],by rw [ap.out],rfl,rfl,by rw [hnz.out,decide_eq_true ba.out],by rw [hnd.out],by rw [hn19.out,<-hnd.out],by rw [hdp.out,hnd.out],rfl⟩
   case rest=>
    obtain ⟨rfl,rfl,rfl,rfl,rfl,rfl,rfl,rfl,rfl,o⟩:=hcut;obtain rfl:=o.symm;clear o;obtain ⟨mt,hmt⟩:∃mt,mt=Av L:=⟨_,rfl⟩;obtain ⟨tr,htr⟩:∃tr,tr=Bd L:=⟨_,rfl⟩;obtain ⟨nd,hnd⟩:∃nd,nd=ndF L:=⟨_,rfl⟩;obtain ⟨dp,hdp⟩:∃dp:Int,dp=(nd:Int) - m:=⟨_,rfl⟩;obtain ⟨dq,hdq⟩:∃dq:Int,dq=if d then dp else (nd:Int):=⟨_,rfl⟩;have hX:expF d L m x=if mt=0 then 0 else dq+x - (n19:Int):=by
     unfold expF;rw [<-hmt,<-hnd,<-hdp,hdq,hn19.out,hnd]
    rw [<-hmt,<-htr,<-hnd,<-hdp];have hLs:nd<=1000/\m<=1000:=by
     have h1:=Dq au.out;have h2:=congrArg List.length an.out;rw [List.length_drop,<-Ai] at h2;have h3:nd<=L.length:=by rw [hnd];exact C3 L
     simp only [List.length_nil] at h1;omega
    have hdp9:-1000<=dp/\dp<=1000:=by omega
    have hn199:n19<=19:=by rw [hn19.out];omega
    have hdq9:-1000<=dq/\dq<=1000:=by rw [hdq];split<;>omega
    replace hmt:=Hd hmt;replace htr:=Hd htr;replace hnd:=Hd hnd;replace hdp:=Hd hdp;replace hdq:=Hd hdq;replace hX:=Hd hX
    go_upto_if 142 with fail
    go_cut [17] from 142 to 142 (fun s17 wx=>s17=.int .i64 dq/\wx=w)
    case first=>
     cases d
     ·have e1:dq=(nd:Int):=hdq.out
      replace e1:=Hd e1;go_wp2_with fail
      go_meet
      exact ⟨by rw [e1.out],rfl⟩
     ·have e1:dq=dp:=hdq.out
      replace e1:=Hd e1;go_wp2_with fail
      go_meet
      exact ⟨by rw [e1.out],rfl⟩
    case rest=>
     obtain ⟨rfl,o⟩:=hcut;obtain rfl:=o.symm;clear o;go_upto_region 57 with fail
     go_cut [161] from 150 to 161 (fun s161 wx=>s161=.bool (!rest.isEmpty)/\wx=w)
     case first=>
      cases hr:rest with
      | nil=>
       have bj:=Cq (hr ▸ ao.out.2);have bs:¬(K:Int)<(s.size:Int):=by omega
       clear bj;replace hr:=Hd hr;go_wp2_with fail
       go_meet
       exact ⟨by rw [hr.out];rfl,rfl⟩
      | cons c1 l1=>
       obtain ⟨bs,b0,_⟩:=Ag (hr ▸ ao.out.2);have ax:c1.toNat=101:=by
        have hx:=ae.out;rw [hr] at hx;cases hx<;>rfl
       have z:okC c1:=.inr (.inr (.inl ax));have q1:((c1.toNat:Int) == 101)=true:=by simp [ax]
       have bd:(K:Int)<(s.size:Int):=by omega
       replace hr:=Hd hr;replace z:=Hd z;clear ax;go_wp2_with fail
       refine (lower_ok z.out _).mono ?_;rintro e w' ⟨rfl,o⟩;obtain rfl:=o.symm;clear o;go_wp2_with fail
       go_meet
       exact ⟨by rw [hr.out];rfl,rfl⟩
     case rest=>
      obtain ⟨rfl,o⟩:=hcut;obtain rfl:=o.symm;clear o
      go_upto_if 161 with fail
      go_cut [7,9,17] from 161 to 239 (fun s7 s9 s17 wx=>s7=.int .i64 (s.size:Int)/\s9=.bool false/\s17=.int .i64 (dq+x)/\wx=w)
      case first=>
       have hx:=ae.out;have ah:=ao.out;clear ae ao hX au;cases hx with
       | none=>
        have bj:=Cq ah.2;have a2:(K:Int)=(s.size:Int):=by omega
        replace a2:=Hd a2;clear bj ah;go_wp2_with fail
        go_meet
        exact ⟨by rw [a2.out],rfl,by simp,rfl⟩
       | @bare E hEne hEd=>
        obtain ⟨be,b1,a0⟩:=Ag ah.2;have bk:(K:Int)+1=((K+1:Nat):Int):=by omega
        have bt:(K:Int)<=1000:=by omega
        clear ah;obtain ⟨q,hq⟩:∃q:Nat,q=K+1:=⟨_,rfl⟩;rw [<-hq] at a0 bk;replace hq:=Hd hq;have g:s.data.toList.drop q=E:=a0;cases hEE:E with
        | nil=>exact absurd hEE hEne
        | cons c2 E2=>
         rw [hEE] at g;obtain ⟨bf,b2,al⟩:=Ag g;have bu:48<=c2.toNat/\c2.toNat<=57:=by
          have:=hEd c2 (by rw [hEE];exact List.mem_cons_self ..);simp [isD] at this;exact this
         have y0:((q:Nat):Int)<(s.size:Int):=by omega
         have y1:¬(c2.toNat:Int)<48:=by omega
         have y2:¬(57:Int)<(c2.toNat:Int):=by omega
         have y3:((c2.toNat:Int) == 43)=false:=by simp;omega
         have y4:((c2.toNat:Int) == 45)=false:=by simp;omega
         rw [<-hEE] at g;have t:q+E.length=s.size:=by
          have h1:=congrArg List.length g;rw [List.length_drop,<-Ai] at h1;omega
         replace g:=Hd g;replace hEE:=Hd hEE;replace hEd:=Hd hEd;replace hEne:=Hd hEne;replace al:=Hd al;replace t:=Hd t;go_wp2_with fail
         go_loop [7,9,20] (fun s7 s9 s20=>∃j:Nat,j<=E.length/\s7=.int .i64 ((q+j:Nat):Int)/\s9=.bool false/\s20=.int .i64 (capE (E.take j):Int)) (fun i _ _=>s.size - (intOf i).toNat)
         case atStart=>exact ⟨0,Nat.zero_le _,rfl,rfl,rfl⟩
         case round=>
          obtain ⟨j,hj,rfl,rfl,rfl⟩:=hrel;obtain ⟨i,hi⟩:∃i:Nat,i=q+j:=⟨_,rfl⟩;obtain ⟨e,hee⟩:∃e:Nat,e=capE (E.take j):=⟨_,rfl⟩;have bv:e<100000:=by rw [hee];exact C9 (fun b hb=>hEd.out b (List.mem_of_mem_take hb))
          rw [<-hi,<-hee];replace hi:=Hd hi;replace hee:=Hd hee;by_cases hjl:j<E.length
          ·have y:s.data.toList.drop i=E[j] :: E.drop (j+1):=by
            rw [hi.out,<-List.drop_drop,g.out];exact List.drop_eq_getElem_cons hjl
           obtain ⟨cj,hcj⟩:∃cj,cj=E[j]:=⟨_,rfl⟩;rw [<-hcj] at y;obtain ⟨bg,bh,_⟩:=Ag y;have bw:48<=cj.toNat/\cj.toNat<=57:=by
            have:=hEd.out cj (by rw [hcj];exact List.getElem_mem hjl);simp [isD] at this;exact this
           have x0:(i:Int)<(s.size:Int):=by omega
           have x1:(48:Int)<=(cj.toNat:Int):=by omega
           have x2:(cj.toNat:Int)<=57:=by omega
           have x3:((cj.toNat:Int) == 95)=false:=by simp;omega
           have bx : ¬(cj.toNat:Int)=95:=by omega
           have ai:E.take (j+1)=E.take j++[cj]:=by rw [List.take_succ_eq_append_getElem hjl,hcj]
           have u:=Es (E.take j) cj;rw [<-ai,<-hee.out] at u;replace u:=Hd u;replace y:=Hd y;replace hcj:=Hd hcj;clear ai;by_cases hcap:e<10000
           ·have x4:(e:Int)<10000:=by omega
            have x5:((capE (E.take (j+1)):Nat):Int)=(e:Int) * 10+(cj.toNat:Int) - 48:=by
             rw [u.out,if_pos hcap];unfold dv;omega
            replace x5:=Hd x5;go_wp2_with fail
            go_round
            case rel=>exact ⟨j+1,by omega,by rw [hi.out];go_num,rfl,by rw [x5.out]⟩
            case measure=>have:=hi.out;have:=t.out;simp [intOf];omega
           ·have x4:¬(e:Int)<10000:=by omega
            have x5:((capE (E.take (j+1)):Nat):Int)=(e:Int):=by rw [u.out,if_neg hcap]
            replace x5:=Hd x5;go_wp2_with fail
            go_round
            case rel=>exact ⟨j+1,by omega,by rw [hi.out];go_num,rfl,by rw [x5.out]⟩
            case measure=>have:=hi.out;have:=t.out;simp [intOf];omega
          ·have ac:j=E.length:=by omega
           have aj:s.size=i:=by rw [hi.out,ac];exact t.out.symm
           have ad:e=capE E:=by rw [hee.out,ac,List.take_length]
           have x0:¬(i:Int)<(s.size:Int):=by omega
           have x6:(i:Int)=(s.size:Int):=by omega
           replace aj:=Hd aj;replace ad:=Hd ad;replace x6:=Hd x6;clear ac;go_wp2_with fail
           go_meet
           exact ⟨by rw [x6.out],rfl,by rw [<-ad.out],rfl⟩
       | @plus E hEne hEd=>
        obtain ⟨be,b1,a0⟩:=Ag ah.2;obtain ⟨bl,b3,am⟩:=Ag a0;have b7:((43:UInt8).toNat:Int)=43:=rfl;have bt:(K:Int)<=998:=by omega
        have bz:(K:Int)+1<(s.size:Int):=by omega
        clear ah;obtain ⟨q,hq⟩:∃q:Nat,q=K+1+1:=⟨_,rfl⟩;have bk:(K:Int)+1+1=(q:Int):=by omega
        rw [<-hq] at am;replace hq:=Hd hq;have g:s.data.toList.drop q=E:=am;cases hEE:E with
        | nil=>exact absurd hEE hEne
        | cons c2 E2=>
         rw [hEE] at g;obtain ⟨bf,b2,al⟩:=Ag g;have bu:48<=c2.toNat/\c2.toNat<=57:=by
          have:=hEd c2 (by rw [hEE];exact List.mem_cons_self ..);simp [isD] at this;exact this
         have y0:((q:Nat):Int)<(s.size:Int):=by omega
         have y1:¬(c2.toNat:Int)<48:=by omega
         have y2:¬(57:Int)<(c2.toNat:Int):=by omega
         have y3:((c2.toNat:Int) == 43)=false:=by simp;omega
         have y4:((c2.toNat:Int) == 45)=false:=by simp;omega
         rw [<-hEE] at g;have t:q+E.length=s.size:=by
          have h1:=congrArg List.length g;rw [List.length_drop,<-Ai] at h1;omega
         replace g:=Hd g;replace hEE:=Hd hEE;replace hEd:=Hd hEd;replace hEne:=Hd hEne;replace al:=Hd al;replace t:=Hd t;go_wp2_with fail
         go_loop [7,9,20] (fun s7 s9 s20=>∃j:Nat,j<=E.length/\s7=.int .i64 ((q+j:Nat):Int)/\s9=.bool false/\s20=.int .i64 (capE (E.take j):Int)) (fun i _ _=>s.size - (intOf i).toNat)
         case atStart=>exact ⟨0,Nat.zero_le _,rfl,rfl,rfl⟩
         case round=>
          obtain ⟨j,hj,rfl,rfl,rfl⟩:=hrel;obtain ⟨i,hi⟩:∃i:Nat,i=q+j:=⟨_,rfl⟩;obtain ⟨e,hee⟩:∃e:Nat,e=capE (E.take j):=⟨_,rfl⟩;have bv:e<100000:=by rw [hee];exact C9 (fun b hb=>hEd.out b (List.mem_of_mem_take hb))
          rw [<-hi,<-hee];replace hi:=Hd hi;replace hee:=Hd hee;by_cases hjl:j<E.length
          ·have y:s.data.toList.drop i=E[j] :: E.drop (j+1):=by
            rw [hi.out,<-List.drop_drop,g.out];exact List.drop_eq_getElem_cons hjl
           obtain ⟨cj,hcj⟩:∃cj,cj=E[j]:=⟨_,rfl⟩;rw [<-hcj] at y;obtain ⟨bg,bh,_⟩:=Ag y;have bw:48<=cj.toNat/\cj.toNat<=57:=by
            have:=hEd.out cj (by rw [hcj];exact List.getElem_mem hjl);simp [isD] at this;exact this
           have x0:(i:Int)<(s.size:Int):=by omega
           have x1:(48:Int)<=(cj.toNat:Int):=by omega
           have x2:(cj.toNat:Int)<=57:=by omega
           have x3:((cj.toNat:Int) == 95)=false:=by simp;omega
           have bx : ¬(cj.toNat:Int)=95:=by omega
           have ai:E.take (j+1)=E.take j++[cj]:=by rw [List.take_succ_eq_append_getElem hjl,hcj]
           have u:=Es (E.take j) cj;rw [<-ai,<-hee.out] at u;replace u:=Hd u;replace y:=Hd y;replace hcj:=Hd hcj;clear ai;by_cases hcap:e<10000
           ·have x4:(e:Int)<10000:=by omega
            have x5:((capE (E.take (j+1)):Nat):Int)=(e:Int) * 10+(cj.toNat:Int) - 48:=by
             rw [u.out,if_pos hcap];unfold dv;omega
            replace x5:=Hd x5;go_wp2_with fail
            go_round
            case rel=>exact ⟨j+1,by omega,by rw [hi.out];go_num,rfl,by rw [x5.out]⟩
            case measure=>have:=hi.out;have:=t.out;simp [intOf];omega
           ·have x4:¬(e:Int)<10000:=by omega
            have x5:((capE (E.take (j+1)):Nat):Int)=(e:Int):=by rw [u.out,if_neg hcap]
            replace x5:=Hd x5;go_wp2_with fail
            go_round
            case rel=>exact ⟨j+1,by omega,by rw [hi.out];go_num,rfl,by rw [x5.out]⟩
            case measure=>have:=hi.out;have:=t.out;simp [intOf];omega
          ·have ac:j=E.length:=by omega
           have aj:s.size=i:=by rw [hi.out,ac];exact t.out.symm
           have ad:e=capE E:=by rw [hee.out,ac,List.take_length]
           have x0:¬(i:Int)<(s.size:Int):=by omega
           have x6:(i:Int)=(s.size:Int):=by omega
           replace aj:=Hd aj;replace ad:=Hd ad;replace x6:=Hd x6;clear ac;go_wp2_with fail
           go_meet
           exact ⟨by rw [x6.out],rfl,by rw [<-ad.out],rfl⟩
       | @minus E hEne hEd=>
        obtain ⟨be,b1,a0⟩:=Ag ah.2;obtain ⟨bl,b3,am⟩:=Ag a0;have b7:((45:UInt8).toNat:Int)=45:=rfl;have bt:(K:Int)<=998:=by omega
        have bz:(K:Int)+1<(s.size:Int):=by omega
        clear ah;obtain ⟨q,hq⟩:∃q:Nat,q=K+1+1:=⟨_,rfl⟩;have bk:(K:Int)+1+1=(q:Int):=by omega
        rw [<-hq] at am;replace hq:=Hd hq;have g:s.data.toList.drop q=E:=am;cases hEE:E with
        | nil=>exact absurd hEE hEne
        | cons c2 E2=>
         rw [hEE] at g;obtain ⟨bf,b2,al⟩:=Ag g;have bu:48<=c2.toNat/\c2.toNat<=57:=by
          have:=hEd c2 (by rw [hEE];exact List.mem_cons_self ..);simp [isD] at this;exact this
         have y0:((q:Nat):Int)<(s.size:Int):=by omega
         have y1:¬(c2.toNat:Int)<48:=by omega
         have y2:¬(57:Int)<(c2.toNat:Int):=by omega
         have y3:((c2.toNat:Int) == 43)=false:=by simp;omega
         have y4:((c2.toNat:Int) == 45)=false:=by simp;omega
         rw [<-hEE] at g;have t:q+E.length=s.size:=by
          have h1:=congrArg List.length g;rw [List.length_drop,<-Ai] at h1;omega
         replace g:=Hd g;replace hEE:=Hd hEE;replace hEd:=Hd hEd;replace hEne:=Hd hEne;replace al:=Hd al;replace t:=Hd t;go_wp2_with fail
         go_loop [7,9,20] (fun s7 s9 s20=>∃j:Nat,j<=E.length/\s7=.int .i64 ((q+j:Nat):Int)/\s9=.bool false/\s20=.int .i64 (capE (E.take j):Int)) (fun i _ _=>s.size - (intOf i).toNat)
         case atStart=>exact ⟨0,Nat.zero_le _,rfl,rfl,rfl⟩
         case round=>
          obtain ⟨j,hj,rfl,rfl,rfl⟩:=hrel;obtain ⟨i,hi⟩:∃i:Nat,i=q+j:=⟨_,rfl⟩;obtain ⟨e,hee⟩:∃e:Nat,e=capE (E.take j):=⟨_,rfl⟩;have bv:e<100000:=by rw [hee];exact C9 (fun b hb=>hEd.out b (List.mem_of_mem_take hb))
          rw [<-hi,<-hee];replace hi:=Hd hi;replace hee:=Hd hee;by_cases hjl:j<E.length
          ·have y:s.data.toList.drop i=E[j] :: E.drop (j+1):=by
            rw [hi.out,<-List.drop_drop,g.out];exact List.drop_eq_getElem_cons hjl
           obtain ⟨cj,hcj⟩:∃cj,cj=E[j]:=⟨_,rfl⟩;rw [<-hcj] at y;obtain ⟨bg,bh,_⟩:=Ag y;have bw:48<=cj.toNat/\cj.toNat<=57:=by
            have:=hEd.out cj (by rw [hcj];exact List.getElem_mem hjl);simp [isD] at this;exact this
           have x0:(i:Int)<(s.size:Int):=by omega
           have x1:(48:Int)<=(cj.toNat:Int):=by omega
           have x2:(cj.toNat:Int)<=57:=by omega
           have x3:((cj.toNat:Int) == 95)=false:=by simp;omega
           have bx : ¬(cj.toNat:Int)=95:=by omega
           have ai:E.take (j+1)=E.take j++[cj]:=by rw [List.take_succ_eq_append_getElem hjl,hcj]
           have u:=Es (E.take j) cj;rw [<-ai,<-hee.out] at u;replace u:=Hd u;replace y:=Hd y;replace hcj:=Hd hcj;clear ai;by_cases hcap:e<10000
           ·have x4:(e:Int)<10000:=by omega
            have x5:((capE (E.take (j+1)):Nat):Int)=(e:Int) * 10+(cj.toNat:Int) - 48:=by
             rw [u.out,if_pos hcap];unfold dv;omega
            replace x5:=Hd x5;go_wp2_with fail
            go_round
            case rel=>exact ⟨j+1,by omega,by rw [hi.out];go_num,rfl,by rw [x5.out]⟩
            case measure=>have:=hi.out;have:=t.out;simp [intOf];omega
           ·have x4:¬(e:Int)<10000:=by omega
            have x5:((capE (E.take (j+1)):Nat):Int)=(e:Int):=by rw [u.out,if_neg hcap]
            replace x5:=Hd x5;go_wp2_with fail
            go_round
            case rel=>exact ⟨j+1,by omega,by rw [hi.out];go_num,rfl,by rw [x5.out]⟩
            case measure=>have:=hi.out;have:=t.out;simp [intOf];omega
          ·have ac:j=E.length:=by omega
           have aj:s.size=i:=by rw [hi.out,ac];exact t.out.symm
           have ad:e=capE E:=by rw [hee.out,ac,List.take_length]
           have x0:¬(i:Int)<(s.size:Int):=by omega
           have x6:(i:Int)=(s.size:Int):=by omega
           replace aj:=Hd aj;replace ad:=Hd ad;replace x6:=Hd x6;clear ac;go_wp2_with fail
           go_meet
           exact ⟨by rw [x6.out],rfl,by rw [<-ad.out],rfl⟩
      case rest=>
       obtain ⟨rfl,rfl,rfl,o⟩:=hcut;obtain rfl:=o.symm;clear o;have hx9:-100000<=x/\x<=100000:=by
        have hx:=ae.out;clear ae ao hX au;cases hx with
        | none=>omega
        | bare h1 h2=>have:=C9 h2;omega
        | plus h1 h2=>have:=C9 h2;omega
        | minus h1 h2=>have:=C9 h2;omega
       by_cases hm0:mt=0
       ·have ar:expF d L m x=0:=by rw [hX.out,if_pos hm0]
        replace ar:=Hd ar;subst hm0;go_wp2_with fail
        exact bodyPost_ret (v:=.tuple #[.int .u64 0,.int .i64 0,.bool neg,.bool tr,.bool false,.int .i64 (s.size:Int),.bool true]) (by simp [results,Tryz.results202,go_sem]) rfl ⟨by rw [ar.out,<-hmt.out,<-htr.out];rfl,rfl⟩
       ·have ar:dq+x - (n19:Int)=expF d L m x:=by rw [hX.out,if_neg hm0]
        have hmz:((mt:Int) != 0)=true:=by simp;omega
        replace ar:=Hd ar;go_wp2_with fail
        rw [Exit.noGoto_ret];exact bodyPost_ret (v:=.tuple #[.int .u64 (mt:Int),.int .i64 (dq+x - (n19:Int)),.bool neg,.bool tr,.bool false,.int .i64 (s.size:Int),.bool true]) (by simp [results,Tryz.results202,go_sem]) rfl ⟨by rw [ar.out,<-hmt.out,<-htr.out],rfl⟩
