/- internal/strconv.ftoa64. -/
import Derived.Test.YtagkgfniihiinaaGreatDoorJ78
import Derived.Test.YtagkgfniihiinaaGreatDoorSetW
import Derived.Lib.ItoaLen
set_option linter.all false
set_option maxHeartbeats 6400000
set_option maxRecDepth 100000
namespace Go.Proofs.YtagkgfniihiinaaGreatDoor
open Go.RowKit
theorem fbits_run (r:Nat) (w:World):(callFunc 137 #[.float .f64 r]).run Tryz.prog w=.ok (.value (.int .u64 r)) w:=by kernel_rfl
theorem bitLenAux_eq:∀(f x:Nat),x<2 ^ f->Lib.bitLenAux f x=An x
 | 0,x,h=>by
  obtain rfl:x=0:=by simpa using h
  rfl
 | f+1,x,h=>by
  unfold Lib.bitLenAux;by_cases h0:x=0
  ·rw [if_pos h0,h0];rfl
  ·rw [if_neg h0,bitLenAux_eq f (x / 2) (by rw [Nat.pow_succ] at h;omega)]
   by_cases h1:x=1
   ·subst h1;rfl
   ·unfold An
    rw [if_neg h0,if_neg (by omega),Nat.log2_def x,if_pos (by omega)];omega
theorem bitLen_eq {x:Nat} (h:x<18446744073709551616):Lib.bitLen x=An x:=bitLenAux_eq 64 x h
theorem rndU_le {u b:Nat} (h:u<=4 * b):rndU u<=b+1:=by unfold rndU;omega
theorem short_top {r:Nat} (h:0<r) (hr:r<9218868437227405312):fMin r<=500000000000000002/\fMax r<=500000000000000000/\rndU (usc r (xM r))<=500000000000000001:=by
 obtain ⟨⟨l0,l1,l9⟩,⟨m0,m1,m9⟩,⟨g0,g1,g9⟩⟩:=x_spec h;have u0:=usc_lt l1 h hr;have u1:=usc_lt g1 h hr;have u2:=usc_lt m1 h hr;refine ⟨?_,?_,rndU_le (by omega)⟩
 ·unfold fMin;omega
 ·unfold fMax;omega
theorem Ds {r:Nat} (h:0<r) (hr:r<9218868437227405312):1<=(A5 r).1/\(A5 r).1<1000000000000000000/\-347<=(A5 r).2/\(A5 r).2<=349:=by
 obtain ⟨p0,p1,p2,p3⟩:=E7 h hr;obtain ⟨t0,t1,t2⟩:=short_top h hr;refine ⟨inI_pos h (short_ok h hr),?_⟩;rcases short_between h hr with ⟨a,b,c⟩ | ⟨a,b,c⟩
 ·rw [a,b];omega
 ·rw [b,c]
  split<;>omega
theorem stripZ_nz {l:List UInt8} {j:Nat} (h:NZ l j):Aw l=l.take j/\(Aw l).length=j:=by
 have h2:NZ l (Aw l).length:=by
  obtain ⟨n,hn⟩:=Dy l;have a:=congrArg List.length hn;rw [List.length_append,List.length_replicate] at a;refine ⟨Ga l,fun i h1 h3=>?_,?_⟩
  ·have h5:(Aw l++List.replicate n (48:UInt8))[i]?=some 48:=by
    rw [List.getElem?_append_right h1,List.getElem?_replicate,if_pos (by omega)]
   rwa [<-hn] at h5
  ·rcases stripZ_last l with h4 | ⟨m,c,h4,h5⟩
   ·left;rw [h4];rfl
   ·right
    have h6:(Aw l++List.replicate n (48:UInt8))[(Aw l).length - 1]?=some c:=by
     rw [h4,List.length_append,List.length_singleton,Nat.add_sub_cancel,List.append_assoc,List.getElem?_append_right (Nat.le_refl _),Nat.sub_self];rfl
    rw [<-hn] at h6;rw [h6];intro e;exact h5 (Option.some.inj e)
 have e:=h2.uniq h;exact ⟨by rw [<-e];exact stripZ_take l,e⟩
theorem Dd : Tryz.prog.globalNamed "internal/strconv.uint64pow10" = some 5 := by kernel_rfl
structure Flo (w:World):Prop where
 pows:Pows w
 tens : Lib.TabIs Tryz.prog w "internal/strconv.uint64pow10" .u64 Lib.pow10Tab
theorem ftoaE_any {B:Nat} {w:World} {n:Nat} {v:Value} {s:ByteArray} (hn:n<18446744073709551616) (hr:n % 9223372036854775808<9218868437227405312) (hR:Row B w v s) (hs:s.size<=1000) (hB:B<=w.heap.size) (hPB:8<B) (hF:Flo w) :
  Calls Tryz.prog 112 #[v,.float .f64 n,.int .u8 101,.int .i64 (-1)] w fun e w' => ∃v' t,e=.returned v' /\ t.data.toList=effE (decide (9223372036854775808<=n)) (digL (n % 9223372036854775808)) (Br (n % 9223372036854775808))/\Row B w' v' (s++t)/\Below B w w' := by
 have hfb:=fbits_run n;obtain ⟨r,hre⟩:∃r,r=n % 9223372036854775808:=⟨_,rfl⟩;rw [<-hre] at hr ⊢;obtain ⟨sg,hsg⟩:∃sg:Nat,(n:Int) / 9223372036854775808=(sg:Int):=⟨n / 9223372036854775808,by omega⟩;obtain ⟨q,hq⟩:∃q:Nat,(n:Int) / 4503599627370496=(q:Int):=⟨n / 4503599627370496,by omega⟩;have hq9:(q:Int)<=4095:=by omega
 obtain ⟨E,hE⟩:∃E:Nat,E=q % 2048:=⟨_,rfl⟩;have an:bits .and .i64 (q:Int) 2047=(E:Int):=by
  have:=D6 (x:=q) (y:=2047) (by omega) (by omega);rw [show q &&& 2047=q % 2048 from Nat.and_two_pow_sub_one_eq_mod q 11,<-hE] at this;exact this
 obtain ⟨M,hM⟩:∃M:Nat,M=n % 4503599627370496:=⟨_,rfl⟩;have ao:bits .and .u64 (n:Int) 4503599627370495=(M:Int):=by
  have:=Cb (x:=n) (y:=4503599627370495) (by omega) (by omega);rw [show n &&& 4503599627370495=n % 4503599627370496 from Nat.and_two_pow_sub_one_eq_mod n 52,<-hM] at this;exact this
 have c:E=r / 4503599627370496:=by omega
 have f:M=r % 4503599627370496:=by omega
 have a9:((E:Int) == 2047)=false:=by simp;omega
 have a3 : ¬(E:Int)=2047:=by omega
 obtain ⟨nb,hnb⟩:∃nb:Bool,nb=decide (9223372036854775808<=n):=⟨_,rfl⟩;have hneg:((sg:Int) != 0)=nb:=by
  rw [show ((sg:Int) != 0)=decide ((sg:Int)≠0) by cases h:((sg:Int) != 0)<;>simp_all,hnb];exact decide_eq_decide.2 (by omega)
 rw [<-hnb];have hq0:(0:Int)<=(q:Int):=by omega
 replace hR:=Hd hR;replace hF:=Hd hF;replace hnb:=Hd hnb;replace hE:=Hd hE;replace hM:=Hd hM;replace c:=Hd c;replace f:=Hd f;replace hre:=Hd hre;have ba:M<4503599627370496:=by have:=hM.out;omega
 go_enter Tryz.func112,Tryz.ntmps112
 go_upto_region 14 with fail
 go_quiet (fail)
 go_upto_if 78 with fail
 obtain ⟨w1,hw1⟩:∃w1,w1=w.drewN nq:=⟨_,rfl⟩;have a:Below w.heap.size w w1:=by rw [hw1];exact Below.drewN (Below.refl _ _)
 rw [<-hw1];have a4:bits .or .u64 (M:Int) 4503599627370496=((4503599627370496+M:Nat):Int):=by
  have:=Bj (x:=M) (y:=4503599627370496) (by omega) (by omega);rw [show M ||| 4503599627370496=4503599627370496+M by rw [Nat.or_comm];exact (Nat.two_pow_add_eq_or_of_lt (i:=52) ba 1).symm] at this;exact this
 obtain ⟨K,hK⟩:∃K:Nat,K=rK r:=⟨_,rfl⟩;obtain ⟨m,hm⟩:∃m:Nat,m=rM r:=⟨_,rfl⟩;have ap:K=E - 1:=by rw [hK,c.out];rfl
 have ac:m=if E=0 then M else 4503599627370496+M:=by
  have f:=f.out;have c:=c.out;rw [hm,f];unfold rM;by_cases h0:E=0
  ·rw [if_pos h0,if_pos (by omega)];omega
  ·rw [if_neg h0,if_neg (by omega)]
 have hm9:m<9007199254740992:=by rw [ac];split<;>omega
 replace hw1:=Hd hw1;replace ac:=Hd ac;replace a:=Hd a;replace hK:=Hd hK;replace hm:=Hd hm
 go_cut [14,15] from 78 to 84 (fun s14 s15 wx=>s14=.int .i64 ((K:Int)+1)/\s15=.int .u64 (m:Int)/\wx=w1)
 case first=>
  by_cases h0:E=0
  ·have aq:m=M:=by rw [ac.out,if_pos h0]
   have ar:(K:Int)=0:=by omega
   have bb:((E:Int) == 0)=true:=by simp;omega
   have bc:(E:Int)=0:=by omega
   subst aq;clear ap c hE f hM;go_wp2_with fail
   go_meet
   exact ⟨by first | rfl | simp [ar],rfl,rfl⟩
  ·have aq:((4503599627370496+M:Nat):Int)=(m:Int):=by rw [ac.out,if_neg h0]
   have ar:(E:Int)=(K:Int)+1:=by omega
   have bb:((E:Int) == 0)=false:=by simp;omega
   rw [aq] at a4;have bc:¬(E:Int)=0:=by omega
   clear ap c hE f hM;go_wp2_with fail
   go_meet
   exact ⟨by first | rfl | rw [ar],rfl,rfl⟩
 case rest=>
  obtain ⟨rfl,rfl,bh⟩:=hcut;obtain rfl:=bh.symm;clear ap c hE f hM an ao a9 a3 a4 ac;have af:w.heap.size<=w1.heap.size:=a.out.size;have ad:Row B w1 v s:=hR.out.below a.out (Nat.le_refl _);by_cases h0:m=0
  ·have ag:r=0:=by
    have:=hm.out;rcases Nat.eq_zero_or_pos r with h9 | h9
    ·exact h9
    ·have:=rM_pos h9;omega
   have bd:((m:Int) == 0)=true:=by simp;omega
   have be:B<=w1.heap.size:=Nat.le_trans hB af;have au:RowK B 8 w1 v s:=⟨ad,fun e=>by have:=(Au ad.own _ e).1;omega,Nat.lt_of_lt_of_le hF.out.pows.lt af⟩;replace ad:=Hd ad;replace au:=Hd au;subst h0;subst ag;go_wp2_with fail
   refine (fmtE_any (D:=⟨#[]⟩) (k:=8) (L:=0) au.out hs (by decide) (by decide) (by decide) (by decide) (by decide) (by decide) (by decide) (by decide) be (fun h=>absurd rfl h) (fun j h=>absurd h (Nat.not_lt_zero _))).mono ?_;rintro e w2 ⟨v', t,rfl,ht,hQ,hb⟩;replace hQ:=Hd hQ;go_wp2_with fail
   go_ret;exact ⟨v', t,rfl,ht,hQ.out,(a.out.mono hB).trans hb⟩
  ·have ag:0<r:=by
    rcases Nat.eq_zero_or_pos r with h9 | h9
    ·exact absurd (by rw [hm.out,h9];rfl) h0
    ·exact h9
   have bd:((m:Int) == 0)=false:=by simp;omega
   obtain ⟨f0,f1,f2,f3,f4⟩:=D5 ag;obtain ⟨S,hS⟩:∃S:Nat,S=fS r:=⟨_,rfl⟩;obtain ⟨X,hX⟩:∃X:Nat,X=xM r:=⟨_,rfl⟩;have ah:∀w,Calls Tryz.prog 141 #[.int .u64 (m:Int)] w fun e w' => e=.returned (.int .i64 (An m:Int))/\w' = w:=fun w=>by
    have:=Tryz.bits_Len64 (m:Int) w (by omega) (by omega);rwa [Int.toNat_natCast,bitLen_eq (by omega)] at this
   have hSl:(64:Int) - (An m:Int)=(S:Int):=by
    rw [hS,hm.out];unfold fS;have:=len64_le (d:=rM r) (by rw [<-hm.out];omega);omega
   rw [<-hS] at f0 f1 f4;rw [<-hX] at f3 f4;have av:m * 2 ^ S=X:=by rw [hX,hm.out,hS];rfl
   have hX9:X<18446744073709551616:=by have:=Nat.two_pow_pos S;omega
   have hXi:(m:Int) * 2 ^ S=(X:Int):=by rw [<-av];simp
   have hK9:K<2046:=by rw [hK.out];exact rK_lt hr
   obtain ⟨e1,he1⟩:∃e1:Int,(K:Int)+1+-1023=e1:=⟨_,rfl⟩;obtain ⟨e2,he2⟩:∃e2:Int,e1 - (S:Int)=e2:=⟨_,rfl⟩;obtain ⟨e3,he3⟩:∃e3:Int,e2 - 52=e3:=⟨_,rfl⟩;have g1:-1100<=e1/\e1<=1100:=by omega
   have g2:-1200<=e2/\e2<=1100:=by omega
   have g3:-1300<=e3/\e3<=1100:=by omega
   obtain ⟨d,hd⟩:∃d:Nat,d=(A5 r).1:=⟨_,rfl⟩;obtain ⟨p,hp⟩:∃p:Int,p=(A5 r).2:=⟨_,rfl⟩;have aw:∀wz,Pows wz->Calls Tryz.prog 149 #[.int .u64 (X:Int),.int .i64 e3] wz fun x w' => x=.returned (.tuple #[.int .u64 (d:Int),.int .i64 p])/\Below wz.heap.size wz w' := fun wz hz=>by
    have:=shortW_any ag hr hz;rw [<-hX,<-hS,<-hK.out,<-hd,<-hp,show (K:Int) - 1074 - (S:Int)=e3 by omega] at this;exact this
   replace aw:=Hd aw;replace hd:=Hd hd;replace hp:=Hd hp;replace hS:=Hd hS;replace hX:=Hd hX;replace av:=Hd av;replace ah:=Hd ah;clear f2;go_wp2_with fail
   refine (ah.out _).mono ?_;rintro e w' ⟨rfl,rfl⟩;go_wp2_with fail
   generalize hw2:w1.alloc _=w2;have o:Below w1.heap.size w1 w2:=by rw [<-hw2];exact (Below.refl _ _).alloc (Nat.le_refl _) _
   have u:∀j,j<32->w2.cell? ⟨w1.heap.size,j,none⟩=some (.int .u8 0)/\w2.frozen? ⟨w1.heap.size,j,none⟩=false:=fun j hj=>by
    rw [<-hw2];refine ⟨?_,World.frozen?_alloc_at _ _ _ _ rfl⟩;rw [World.cell?_alloc_new];have bf:∀j:Fin 32,(Array.replicate 32 (Value.int .u8 0))[j.val]?=some (Value.int .u8 0):=fun j=>by simp
    exact bf ⟨j,hj⟩
   have hsz2:w2.heap.size=w1.heap.size+1:=by rw [<-hw2];simp
   have bg:Pows w2:=(hF.out.pows.below a.out hF.out.pows.lt).below o (Nat.lt_of_lt_of_le hF.out.pows.lt af);replace u:=Hd u;replace hw2:=Hd hw2;replace o:=Hd o;refine (aw.out _ bg).mono ?_;rintro e w3 ⟨rfl,b⟩;obtain ⟨d1,d2,p1,p2⟩:=Ds ag hr;rw [<-hd.out] at d1 d2;rw [<-hp.out] at p1 p2;have l:∀j,j<32->w3.cell? ⟨w1.heap.size,j,none⟩=some (.int .u8 0)/\w3.frozen? ⟨w1.heap.size,j,none⟩=false:=fun j hj=>by
    have a5:w1.heap.size<w2.heap.size:=by omega
    exact ⟨(b.cell (p:=⟨w1.heap.size,j,none⟩) a5).trans (u.out j hj).1,(b.frozen (p:=⟨w1.heap.size,j,none⟩) a5).trans (u.out j hj).2⟩
   have z:Below w1.heap.size w1 w3:=o.out.trans (b.mono (by omega));have hsz3:w1.heap.size<w3.heap.size:=by have:=b.size;omega
   have a6:Below w.heap.size w w3:=a.out.trans (z.mono af);have ax : Lib.TabIs Tryz.prog w3.drew "internal/strconv.uint64pow10" .u64 Lib.pow10Tab := Go.Joins.tab_stays Dd hF.out.tens a6.drew (Nat.le_refl _);have aj:=Tryz.internal_strconv_numDigits d d1 (by omega) w3.drew ax;obtain ⟨N,hN⟩:∃N,N=Lib.nDigits d:=⟨_,rfl⟩;rw [<-hN] at aj;have aa:=@setDigits_any w3.drew w1.heap.size d p d1 (by omega) (by omega) (by omega) l;rw [<-hN] at aa;replace aj:=Hd aj;replace aa:=Hd aa;replace l:=Hd l;replace z:=Hd z;replace b:=Hd b;replace ax:=Hd ax;replace hN:=Hd hN;go_upto_region 38 with fail
   go_region_with (first | (go_at_call 126;refine aj.out.mono ?_;rintro e w' ⟨rfl,rfl⟩) | (go_at_call 143;refine aa.out.mono ?_;rintro e w' ⟨j,rfl,hz,a8,a2⟩))
   have ay:=stripZ_nz hz;have hjl:j<=N:=by have:=hz.le;rw [Lib.decDigits_length,<-hN.out] at this;exact this
   have hN18:N<=20:=by rw [hN.out];exact Lib.nDigits_le20 d (by omega)
   have hj1:1<=j:=by
    rcases Nat.eq_zero_or_pos j with h9 | h9
    ·subst h9
     have:=stripZ_nil (List.length_eq_zero_iff.1 ay.2);rw [El] at this;omega
    ·exact h9
   obtain ⟨pr,rfl⟩:∃pr,j=pr+1:=⟨j - 1,by omega⟩;obtain ⟨dp,bi⟩:∃dp:Int,(N:Int)+p=dp:=⟨_,rfl⟩;have hpr:¬(pr:Int)<0:=by omega
   have hpr2:((pr+1:Nat):Int) - 1=(pr:Int):=by omega
   have hD:digL r=(Lib.decDigits d).take (pr+1):=by
    unfold digL;rw [if_neg (by omega),<-hd.out];exact ay.1
   have az:Br r=dp:=by
    unfold Br;rw [if_neg (by omega),<-hd.out,<-hp.out,<-hN.out];exact bi
   obtain ⟨D,hDe⟩:∃D:ByteArray,D=⟨((Lib.decDigits d).take (pr+1)).toArray⟩:=⟨_,rfl⟩;have ak:D.data.toList=digL r:=by rw [hDe,hD]
   have ae:D.size=pr+1:=by
    rw [hDe];show ((Lib.decDigits d).take (pr+1)).toArray.size=pr+1;rw [List.size_toArray,List.length_take,Lib.decDigits_length,<-hN.out];omega
   have a0:∀i (h:i<D.size),w'.cell? ⟨w1.heap.size,i,none⟩=some (.int .u8 ((D.data[i]'h).toNat:Int)):=fun i h=>by
    have hi:i<(Lib.decDigits d).length:=by rw [Lib.decDigits_length,<-hN.out];omega
    rw [a8 i hi];subst hDe;show some (encB _)=some (Value.int .u8 (((((Lib.decDigits d).take (pr+1)).toArray[i]'h:UInt8).toNat:Nat):Int));simp [encB]
   have al:Below w1.heap.size w1 w' := z.out.drew.trans a2;have a1:RowK B w1.heap.size w' v s:=⟨ad.below al (Nat.le_refl _),fun e=>by have:=(Au ad.own _ e).2;omega,by have:=a2.size;have e9:w3.drew.heap.size=w3.heap.size:=rfl;omega⟩;have ab:Below w.heap.size w w' := a.out.trans (al.mono af);clear hz a8 a2 ay hDe;replace a0:=Hd a0;replace ak:=Hd ak;replace hD:=Hd hD;replace az:=Hd az;replace a1:=Hd a1;replace ab:=Hd ab;replace al:=Hd al;have ai:(D.size:Int)=(pr:Int)+1:=by omega
   replace ae:=Hd ae;replace ai:=Hd ai;have am:=fmtE_any (L:=32) (sl:=.slice (some ⟨w1.heap.size,0,none⟩) 32 32) (neg:=nb) (sh:=true) (dp:=dp) (prec:=(pr:Int)) a1.out hs (by have:=ae.out;omega) (by omega) (by omega) (by omega) (by omega) (by have:=ae.out;omega) (by have:=ae.out;omega) (by decide) (Nat.le_trans hB ab.out.size) (fun _=>rfl) a0.out;rw [ai.out] at am;replace am:=Hd am;go_wp2_with fail
   refine am.out.mono ?_;rintro e w5 ⟨v', t,rfl,ht,hQ,hb⟩;replace hQ:=Hd hQ;rw [ak.out,az.out.symm,Int.toNat_natCast,show pr=(digL r).length - 1 by rw [<-ak.out,Array.length_toList];have:=ae.out;show pr=D.size - 1;omega,effP_short] at ht;replace ht:=Hd ht;have a7:=(ab.out.mono hB).trans hb;go_wp2_with fail
   go_ret;refine ⟨v', t,rfl,?_,hQ.out,a7⟩;rw [ht.out,hnb.out]
theorem ftoaF_any {B:Nat} {w:World} {n:Nat} {v:Value} {s:ByteArray} (hn:n<18446744073709551616) (hr:n % 9223372036854775808<9218868437227405312) (hR:Row B w v s) (hs:s.size<=1000) (hB:B<=w.heap.size) (hPB:8<B) (hF:Flo w) :
  Calls Tryz.prog 112 #[v,.float .f64 n,.int .u8 102,.int .i64 (-1)] w fun e w' => ∃v' t,e=.returned v' /\ t.data.toList=effF (decide (9223372036854775808<=n)) (digL (n % 9223372036854775808)) (Br (n % 9223372036854775808))/\Row B w' v' (s++t)/\Below B w w' := by
 have hfb:=fbits_run n;obtain ⟨r,hre⟩:∃r,r=n % 9223372036854775808:=⟨_,rfl⟩;rw [<-hre] at hr ⊢;obtain ⟨sg,hsg⟩:∃sg:Nat,(n:Int) / 9223372036854775808=(sg:Int):=⟨n / 9223372036854775808,by omega⟩;obtain ⟨q,hq⟩:∃q:Nat,(n:Int) / 4503599627370496=(q:Int):=⟨n / 4503599627370496,by omega⟩;have hq9:(q:Int)<=4095:=by omega
 obtain ⟨E,hE⟩:∃E:Nat,E=q % 2048:=⟨_,rfl⟩;have ar:bits .and .i64 (q:Int) 2047=(E:Int):=by
  have:=D6 (x:=q) (y:=2047) (by omega) (by omega);rw [show q &&& 2047=q % 2048 from Nat.and_two_pow_sub_one_eq_mod q 11,<-hE] at this;exact this
 obtain ⟨M,hM⟩:∃M:Nat,M=n % 4503599627370496:=⟨_,rfl⟩;have au:bits .and .u64 (n:Int) 4503599627370495=(M:Int):=by
  have:=Cb (x:=n) (y:=4503599627370495) (by omega) (by omega);rw [show n &&& 4503599627370495=n % 4503599627370496 from Nat.and_two_pow_sub_one_eq_mod n 52,<-hM] at this;exact this
 have l:E=r / 4503599627370496:=by omega
 have o:M=r % 4503599627370496:=by omega
 have a9:((E:Int) == 2047)=false:=by simp;omega
 have a4 : ¬(E:Int)=2047:=by omega
 obtain ⟨nb,hnb⟩:∃nb:Bool,nb=decide (9223372036854775808<=n):=⟨_,rfl⟩;have hneg:((sg:Int) != 0)=nb:=by
  rw [show ((sg:Int) != 0)=decide ((sg:Int)≠0) by cases h:((sg:Int) != 0)<;>simp_all,hnb];exact decide_eq_decide.2 (by omega)
 rw [<-hnb];have hq0:(0:Int)<=(q:Int):=by omega
 replace hR:=Hd hR;replace hF:=Hd hF;replace hnb:=Hd hnb;replace hE:=Hd hE;replace hM:=Hd hM;replace l:=Hd l;replace o:=Hd o;replace hre:=Hd hre;have ba:M<4503599627370496:=by have:=hM.out;omega
 go_enter Tryz.func112,Tryz.ntmps112
 go_upto_region 14 with fail
 go_quiet (fail)
 go_upto_if 78 with fail
 obtain ⟨w1,hw1⟩:∃w1,w1=w.drewN nq:=⟨_,rfl⟩;have a:Below w.heap.size w w1:=by rw [hw1];exact Below.drewN (Below.refl _ _)
 rw [<-hw1];have a5:bits .or .u64 (M:Int) 4503599627370496=((4503599627370496+M:Nat):Int):=by
  have:=Bj (x:=M) (y:=4503599627370496) (by omega) (by omega);rw [show M ||| 4503599627370496=4503599627370496+M by rw [Nat.or_comm];exact (Nat.two_pow_add_eq_or_of_lt (i:=52) ba 1).symm] at this;exact this
 obtain ⟨K,hK⟩:∃K:Nat,K=rK r:=⟨_,rfl⟩;obtain ⟨m,hm⟩:∃m:Nat,m=rM r:=⟨_,rfl⟩;have av:K=E - 1:=by rw [hK,l.out];rfl
 have af:m=if E=0 then M else 4503599627370496+M:=by
  have o:=o.out;have l:=l.out;rw [hm,o];unfold rM;by_cases h0:E=0
  ·rw [if_pos h0,if_pos (by omega)];omega
  ·rw [if_neg h0,if_neg (by omega)]
 have hm9:m<9007199254740992:=by rw [af];split<;>omega
 replace hw1:=Hd hw1;replace af:=Hd af;replace a:=Hd a;replace hK:=Hd hK;replace hm:=Hd hm
 go_cut [14,15] from 78 to 84 (fun s14 s15 wx=>s14=.int .i64 ((K:Int)+1)/\s15=.int .u64 (m:Int)/\wx=w1)
 case first=>
  by_cases h0:E=0
  ·have aw:m=M:=by rw [af.out,if_pos h0]
   have ax:(K:Int)=0:=by omega
   have bb:((E:Int) == 0)=true:=by simp;omega
   have bc:(E:Int)=0:=by omega
   subst aw;clear av l hE o hM;go_wp2_with fail
   go_meet
   exact ⟨by first | rfl | simp [ax],rfl,rfl⟩
  ·have aw:((4503599627370496+M:Nat):Int)=(m:Int):=by rw [af.out,if_neg h0]
   have ax:(E:Int)=(K:Int)+1:=by omega
   have bb:((E:Int) == 0)=false:=by simp;omega
   rw [aw] at a5;have bc:¬(E:Int)=0:=by omega
   clear av l hE o hM;go_wp2_with fail
   go_meet
   exact ⟨by first | rfl | rw [ax],rfl,rfl⟩
 case rest=>
  obtain ⟨rfl,rfl,bi⟩:=hcut;obtain rfl:=bi.symm;clear av l hE o hM ar au a9 a4 a5 af;have ah:w.heap.size<=w1.heap.size:=a.out.size;have ag:Row B w1 v s:=hR.out.below a.out (Nat.le_refl _);by_cases h0:m=0
  ·have ai:r=0:=by
    have:=hm.out;rcases Nat.eq_zero_or_pos r with h9 | h9
    ·exact h9
    ·have:=rM_pos h9;omega
   have bd:((m:Int) == 0)=true:=by simp;omega
   have be:B<=w1.heap.size:=Nat.le_trans hB ah;have ay:RowK B 8 w1 v s:=⟨ag,fun e=>by have:=(Au ag.own _ e).1;omega,Nat.lt_of_lt_of_le hF.out.pows.lt ah⟩;replace ag:=Hd ag;replace ay:=Hd ay;subst h0;subst ai;go_wp2_with fail
   refine (fmtF_any (D:=⟨#[]⟩) (k:=8) (L:=0) ay.out hs (by decide) (by decide) (by decide) (by decide) (by decide) (by decide) (by decide) (by decide) (by decide) (by decide) be (fun h=>absurd rfl h) (fun j h=>absurd h (Nat.not_lt_zero _))).mono ?_;rintro e w2 ⟨v', t,rfl,ht,hQ,hb⟩;replace hQ:=Hd hQ;go_wp2_with fail
   go_ret;exact ⟨v', t,rfl,ht,hQ.out,(a.out.mono hB).trans hb⟩
  ·have ai:0<r:=by
    rcases Nat.eq_zero_or_pos r with h9 | h9
    ·exact absurd (by rw [hm.out,h9];rfl) h0
    ·exact h9
   have bd:((m:Int) == 0)=false:=by simp;omega
   obtain ⟨f0,f1,f2,f3,f4⟩:=D5 ai;obtain ⟨S,hS⟩:∃S:Nat,S=fS r:=⟨_,rfl⟩;obtain ⟨X,hX⟩:∃X:Nat,X=xM r:=⟨_,rfl⟩;have aj:∀w,Calls Tryz.prog 141 #[.int .u64 (m:Int)] w fun e w' => e=.returned (.int .i64 (An m:Int))/\w' = w:=fun w=>by
    have:=Tryz.bits_Len64 (m:Int) w (by omega) (by omega);rwa [Int.toNat_natCast,bitLen_eq (by omega)] at this
   have hSl:(64:Int) - (An m:Int)=(S:Int):=by
    rw [hS,hm.out];unfold fS;have:=len64_le (d:=rM r) (by rw [<-hm.out];omega);omega
   rw [<-hS] at f0 f1 f4;rw [<-hX] at f3 f4;have az:m * 2 ^ S=X:=by rw [hX,hm.out,hS];rfl
   have hX9:X<18446744073709551616:=by have:=Nat.two_pow_pos S;omega
   have hXi:(m:Int) * 2 ^ S=(X:Int):=by rw [<-az];simp
   have hK9:K<2046:=by rw [hK.out];exact rK_lt hr
   obtain ⟨e1,he1⟩:∃e1:Int,(K:Int)+1+-1023=e1:=⟨_,rfl⟩;obtain ⟨e2,he2⟩:∃e2:Int,e1 - (S:Int)=e2:=⟨_,rfl⟩;obtain ⟨e3,he3⟩:∃e3:Int,e2 - 52=e3:=⟨_,rfl⟩;have g1:-1100<=e1/\e1<=1100:=by omega
   have g2:-1200<=e2/\e2<=1100:=by omega
   have g3:-1300<=e3/\e3<=1100:=by omega
   obtain ⟨d,hd⟩:∃d:Nat,d=(A5 r).1:=⟨_,rfl⟩;obtain ⟨p,hp⟩:∃p:Int,p=(A5 r).2:=⟨_,rfl⟩;have a0:∀wz,Pows wz->Calls Tryz.prog 149 #[.int .u64 (X:Int),.int .i64 e3] wz fun x w' => x=.returned (.tuple #[.int .u64 (d:Int),.int .i64 p])/\Below wz.heap.size wz w' := fun wz hz=>by
    have:=shortW_any ai hr hz;rw [<-hX,<-hS,<-hK.out,<-hd,<-hp,show (K:Int) - 1074 - (S:Int)=e3 by omega] at this;exact this
   replace a0:=Hd a0;replace hd:=Hd hd;replace hp:=Hd hp;replace hS:=Hd hS;replace hX:=Hd hX;replace az:=Hd az;replace aj:=Hd aj;clear f2;go_wp2_with fail
   refine (aj.out _).mono ?_;rintro e w' ⟨rfl,rfl⟩;go_wp2_with fail
   generalize hw2:w1.alloc _=w2;have ab:Below w1.heap.size w1 w2:=by rw [<-hw2];exact (Below.refl _ _).alloc (Nat.le_refl _) _
   have ac:∀j,j<32->w2.cell? ⟨w1.heap.size,j,none⟩=some (.int .u8 0)/\w2.frozen? ⟨w1.heap.size,j,none⟩=false:=fun j hj=>by
    rw [<-hw2];refine ⟨?_,World.frozen?_alloc_at _ _ _ _ rfl⟩;rw [World.cell?_alloc_new];have bf:∀j:Fin 32,(Array.replicate 32 (Value.int .u8 0))[j.val]?=some (Value.int .u8 0):=fun j=>by simp
    exact bf ⟨j,hj⟩
   have hsz2:w2.heap.size=w1.heap.size+1:=by rw [<-hw2];simp
   have bg:Pows w2:=(hF.out.pows.below a.out hF.out.pows.lt).below ab (Nat.lt_of_lt_of_le hF.out.pows.lt ah);replace ac:=Hd ac;replace hw2:=Hd hw2;replace ab:=Hd ab;refine (a0.out _ bg).mono ?_;rintro e w3 ⟨rfl,f⟩;obtain ⟨d1,d2,p1,p2⟩:=Ds ai hr;rw [<-hd.out] at d1 d2;rw [<-hp.out] at p1 p2;have aa:∀j,j<32->w3.cell? ⟨w1.heap.size,j,none⟩=some (.int .u8 0)/\w3.frozen? ⟨w1.heap.size,j,none⟩=false:=fun j hj=>by
    have a6:w1.heap.size<w2.heap.size:=by omega
    exact ⟨(f.cell (p:=⟨w1.heap.size,j,none⟩) a6).trans (ac.out j hj).1,(f.frozen (p:=⟨w1.heap.size,j,none⟩) a6).trans (ac.out j hj).2⟩
   have ad:Below w1.heap.size w1 w3:=ab.out.trans (f.mono (by omega));have hsz3:w1.heap.size<w3.heap.size:=by have:=f.size;omega
   have a7:Below w.heap.size w w3:=a.out.trans (ad.mono ah);have a1 : Lib.TabIs Tryz.prog w3.drew "internal/strconv.uint64pow10" .u64 Lib.pow10Tab := Go.Joins.tab_stays Dd hF.out.tens a7.drew (Nat.le_refl _);have al:=Tryz.internal_strconv_numDigits d d1 (by omega) w3.drew a1;obtain ⟨N,hN⟩:∃N,N=Lib.nDigits d:=⟨_,rfl⟩;rw [<-hN] at al;have ae:=@setDigits_any w3.drew w1.heap.size d p d1 (by omega) (by omega) (by omega) aa;rw [<-hN] at ae;replace al:=Hd al;replace ae:=Hd ae;replace aa:=Hd aa;replace ad:=Hd ad;replace f:=Hd f;replace a1:=Hd a1;replace hN:=Hd hN;go_upto_region 38 with fail
   go_region_with (first | (go_at_call 126;refine al.out.mono ?_;rintro e w' ⟨rfl,rfl⟩) | (go_at_call 143;refine ae.out.mono ?_;rintro e w' ⟨j,rfl,hz,a8,a3⟩))
   have a2:=stripZ_nz hz;have hjl:j<=N:=by have:=hz.le;rw [Lib.decDigits_length,<-hN.out] at this;exact this
   have hN18:N<=20:=by rw [hN.out];exact Lib.nDigits_le20 d (by omega)
   have hj1:1<=j:=by
    rcases Nat.eq_zero_or_pos j with h9 | h9
    ·subst h9
     have:=stripZ_nil (List.length_eq_zero_iff.1 a2.2);rw [El] at this;omega
    ·exact h9
   obtain ⟨pr,rfl⟩:∃pr,j=pr+1:=⟨j - 1,by omega⟩;obtain ⟨dp,bj⟩:∃dp:Int,(N:Int)+p=dp:=⟨_,rfl⟩;have hpr:¬(pr:Int)<0:=by omega
   have hpr2:((pr+1:Nat):Int) - 1=(pr:Int):=by omega
   have hD:digL r=(Lib.decDigits d).take (pr+1):=by
    unfold digL;rw [if_neg (by omega),<-hd.out];exact a2.1
   have am:Br r=dp:=by
    unfold Br;rw [if_neg (by omega),<-hd.out,<-hp.out,<-hN.out];exact bj
   obtain ⟨D,hDe⟩:∃D:ByteArray,D=⟨((Lib.decDigits d).take (pr+1)).toArray⟩:=⟨_,rfl⟩;have an:D.data.toList=digL r:=by rw [hDe,hD]
   have u:D.size=pr+1:=by
    rw [hDe];show ((Lib.decDigits d).take (pr+1)).toArray.size=pr+1;rw [List.size_toArray,List.length_take,Lib.decDigits_length,<-hN.out];omega
   have ao:∀i (h:i<D.size),w'.cell? ⟨w1.heap.size,i,none⟩=some (.int .u8 ((D.data[i]'h).toNat:Int)):=fun i h=>by
    have hi:i<(Lib.decDigits d).length:=by rw [Lib.decDigits_length,<-hN.out];omega
    rw [a8 i hi];subst hDe;show some (encB _)=some (Value.int .u8 (((((Lib.decDigits d).take (pr+1)).toArray[i]'h:UInt8).toNat:Nat):Int));simp [encB]
   have ap:Below w1.heap.size w1 w' := ad.out.drew.trans a3;have aq:RowK B w1.heap.size w' v s:=⟨ag.below ap (Nat.le_refl _),fun e=>by have:=(Au ag.own _ e).2;omega,by have:=a3.size;have e9:w3.drew.heap.size=w3.heap.size:=rfl;omega⟩;have b:Below w.heap.size w w' := a.out.trans (ap.mono ah);clear hz a8 a3 a2 hDe;replace ao:=Hd ao;replace an:=Hd an;replace hD:=Hd hD;replace am:=Hd am;replace aq:=Hd aq;replace b:=Hd b;replace ap:=Hd ap;have c:(D.size:Int)=(pr:Int)+1:=by omega
   replace u:=Hd u;replace c:=Hd c;obtain ⟨x,hx⟩:∃x:Int,(pr:Int)+1 - dp=x:=⟨_,rfl⟩;have hx0:-1000<=x/\x<=1000:=by omega
   by_cases hxn:0<x
   ·have bh:max x 0=x:=by omega
    have g:=fmtF_any (L:=32) (sl:=.slice (some ⟨w1.heap.size,0,none⟩) 32 32) (neg:=nb) (sh:=true) (dp:=dp) (prec:=x) aq.out hs (by have:=u.out;omega) (by omega) (by omega) (fun _=>by have:=c.out;omega) (fun h=>absurd hxn (by omega)) (by omega) (by omega) (fun _=>by have:=u.out;omega) (by have:=u.out;omega) (by decide) (Nat.le_trans hB b.out.size) (fun _=>rfl) ao.out;rw [c.out] at g;replace g:=Hd g;go_wp2_with fail
    refine g.out.mono ?_;rintro e w5 ⟨v', t,rfl,ht,hQ,hb⟩;replace hQ:=Hd hQ;rw [an.out,am.out.symm] at ht;replace ht:=Hd ht;have ak:=(b.out.mono hB).trans hb;go_wp2_with fail
    go_ret;refine ⟨v', t,rfl,?_,hQ.out,ak⟩;rw [ht.out,hnb.out]
   ·have g:=fmtF_any (L:=32) (sl:=.slice (some ⟨w1.heap.size,0,none⟩) 32 32) (neg:=nb) (sh:=true) (dp:=dp) (prec:=0) aq.out hs (by have:=u.out;omega) (by omega) (by omega) (fun h=>absurd h (by decide)) (fun h=>by have:=c.out;omega) (by omega) (by omega) (fun _=>by have:=u.out;omega) (by have:=u.out;omega) (by decide) (Nat.le_trans hB b.out.size) (fun _=>rfl) ao.out
    rw [c.out] at g;replace g:=Hd g;have bh:max x 0=0:=by omega
    go_wp2_with fail
    refine g.out.mono ?_;rintro e w5 ⟨v', t,rfl,ht,hQ,hb⟩;replace hQ:=Hd hQ;rw [an.out,am.out.symm] at ht;replace ht:=Hd ht;have ak:=(b.out.mono hB).trans hb;go_wp2_with fail
    go_ret;refine ⟨v', t,rfl,?_,hQ.out,ak⟩;rw [ht.out,hnb.out]
