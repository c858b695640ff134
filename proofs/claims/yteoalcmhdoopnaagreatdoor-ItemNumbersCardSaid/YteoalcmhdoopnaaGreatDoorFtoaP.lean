/- internal/strconv.ftoa64: so many digits, written with an exponent. -/
import Derived.Test.YteoalcmhdoopnaaGreatDoorJ42
import Derived.Test.YteoalcmhdoopnaaGreatDoorReal
namespace Go.Proofs.YteoalcmhdoopnaaGreatDoor
open Go.RowKit
def Opt (w:World):Prop:=w.cell? ⟨4,0,none⟩=some (.bool true)
theorem Flo.below' {w w' : World} (h:Flo w) (hb:Below w.heap.size w w'):Flo w' := ⟨h.pows.below hb h.pows.lt,Go.Joins.tab_stays A8 h.tens hb (Nat.le_refl _)⟩
theorem Opt.below {w w' : World} (h:Opt w) (hb:Below w.heap.size w w'):Opt w' := Bx hb _ _ h
set_option maxRecDepth 100000 in
set_option maxHeartbeats 6400000 in
theorem ftoaP_any {B:Nat} {w:World} {n:Nat} {v:Value} {s:ByteArray} (hn:n<18446744073709551616) (hr:n % 9223372036854775808<9218868437227405312) (hz0:0<n % 9223372036854775808) (hR:Row B w v s) (hs:s.size<=1000) (hB:B<=w.heap.size) (hPB:13<B) (hF:Flo w) (hO:Opt w) {k:Nat} (hk:k<=16) :
   Calls Tryz.prog 85 #[v,.float .f64 n,.int .u8 101,.int .i64 (k:Int)] w fun e w' => ∃v' t,e=.returned v' /\ t.data.toList=effP (decide (9223372036854775808<=n)) (Ai (Lib.decDigits (fixN (n % 9223372036854775808) (k+1)).1)) (((k+1:Nat):Int)+(fixN (n % 9223372036854775808) (k+1)).2) k/\Row B w' v' (s++t)/\Below B w w' := by
 have hO' := hO
 have hk0:¬((k:Int)<0):=by omega
 have hk9:(k:Int)<=16:=by omega
 replace hO' := Hd hO'
 clear hO
 have hfb:=fbits_run n
 obtain ⟨r,hre⟩:∃r,r=n % 9223372036854775808:=⟨_,rfl⟩
 rw [<-hre] at hr hz0 ⊢
 obtain ⟨sg,hsg⟩:∃sg:Nat,(n:Int) / 9223372036854775808=(sg:Int):=⟨n / 9223372036854775808,by omega⟩
 obtain ⟨q,hq⟩:∃q:Nat,(n:Int) / 4503599627370496=(q:Int):=⟨n / 4503599627370496,by omega⟩
 have hq9:(q:Int)<=4095:=by omega
 obtain ⟨E,hE⟩:∃E:Nat,E=q % 2048:=⟨_,rfl⟩
 have hand1:bits .and .i64 (q:Int) 2047=(E:Int):=by
   have:=Cs (x:=q) (y:=2047) (by omega) (by omega);rw [show q &&& 2047=q % 2048 from Nat.and_two_pow_sub_one_eq_mod q 11,<-hE] at this;exact this
 obtain ⟨M,hM⟩:∃M:Nat,M=n % 4503599627370496:=⟨_,rfl⟩
 have hand2:bits .and .u64 (n:Int) 4503599627370495=(M:Int):=by
   have:=A7 (x:=n) (y:=4503599627370495) (by omega) (by omega);rw [show n &&& 4503599627370495=n % 4503599627370496 from Nat.and_two_pow_sub_one_eq_mod n 52,<-hM] at this;exact this
 have hEr:E=r / 4503599627370496:=by omega
 have hMr:M=r % 4503599627370496:=by omega
 have hE9:((E:Int) == 2047)=false:=by simp;omega
 have hE9' : ¬(E:Int)=2047:=by omega
 obtain ⟨nb,hnb⟩:∃nb:Bool,nb=decide (9223372036854775808<=n):=⟨_,rfl⟩
 have hneg:((sg:Int) != 0)=nb:=by
   rw [show ((sg:Int) != 0)=decide ((sg:Int)≠0) by cases h:((sg:Int) != 0)<;>simp_all,hnb];exact decide_eq_decide.2 (by omega)
 rw [<-hnb]
 have hq0:(0:Int)<=(q:Int):=by omega
 replace hR:=Hd hR
 replace hF:=Hd hF
 replace hnb:=Hd hnb
 replace hE:=Hd hE
 replace hM:=Hd hM
 replace hEr:=Hd hEr
 replace hMr:=Hd hMr
 replace hre:=Hd hre
 have hM9:M<4503599627370496:=by have:=hM.out;omega
 go_enter Tryz.func85,Tryz.ntmps85
 go_upto_region 14 with fail
 go_quiet (fail)
 go_upto_if 78 with fail
 obtain ⟨w1,hw1⟩:∃w1,w1=w.drewN nq:=⟨_,rfl⟩
 have hb01:Below w.heap.size w w1:=by rw [hw1];exact Below.drewN (Below.refl _ _)
 rw [<-hw1]
 have hor:bits .or .u64 (M:Int) 4503599627370496=((4503599627370496+M:Nat):Int):=by
   have:=Aw (x:=M) (y:=4503599627370496) (by omega) (by omega);rw [show M ||| 4503599627370496=4503599627370496+M by rw [Nat.or_comm];exact (Nat.two_pow_add_eq_or_of_lt (i:=52) hM9 1).symm] at this;exact this
 obtain ⟨K,hK⟩:∃K:Nat,K=rK r:=⟨_,rfl⟩
 obtain ⟨m,hm⟩:∃m:Nat,m=rM r:=⟨_,rfl⟩
 have hKE:K=E - 1:=by rw [hK,hEr.out];rfl
 have hmE:m=if E=0 then M else 4503599627370496+M:=by
   have hMr:=hMr.out;have hEr:=hEr.out;rw [hm,hMr];unfold rM;by_cases h0:E=0
   · rw [if_pos h0,if_pos (by omega)];omega
   · rw [if_neg h0,if_neg (by omega)]
 have hm9:m<9007199254740992:=by rw [hmE];split<;>omega
 replace hw1:=Hd hw1
 replace hmE:=Hd hmE
 replace hb01:=Hd hb01
 replace hK:=Hd hK
 replace hm:=Hd hm
 go_cut [14,15] from 78 to 84 (fun s14 s15 wx=>s14=.int .i64 ((K:Int)+1)/\s15=.int .u64 (m:Int)/\wx=w1)
 case first=>
   by_cases h0:E=0
   · have hm0:m=M:=by rw [hmE.out,if_pos h0]
     have hkz:K=0:=by omega
     clear hKE hEr hE hMr hM hmE;subst h0;subst hm0;subst hkz;have hE0:(((0:Nat):Int) == 0)=true:=rfl;clear hk0;go_wp2_with fail
     go_meet
     exact ⟨rfl,rfl,rfl⟩
   · have hm0:((4503599627370496+M:Nat):Int)=(m:Int):=by rw [hmE.out,if_neg h0]
     have hkE:E=K+1:=by omega
     rw [hm0] at hor;clear hKE hEr hE hMr hM hmE;subst hkE;have hE0:(((K+1:Nat):Int) == 0)=false:=by simp;omega
     have hE1:¬((K+1:Nat):Int)=0:=by omega
     clear hk0 h0 hm0;go_wp2_with fail
     go_meet
     exact ⟨by first | rfl | simp,rfl,rfl⟩
 case rest=>
   obtain ⟨rfl,rfl,hww⟩:=hcut;obtain rfl:=hww.symm;clear hKE hEr hE hMr hM hand1 hand2 hE9 hE9' hor hmE;have hB1:w.heap.size<=w1.heap.size:=hb01.out.size;have hR1:Row B w1 v s:=hR.out.below hb01.out (Nat.le_refl _);have hm0:m≠0:=by
     rw [hm.out];have:=Fq hz0;omega
   have hop:w1.cell? ⟨4,0,none⟩=some (.bool true):=Bx hb01.out _ _ hO'.out;have hr0:0<r:=hz0;have hmz:((m:Int) == 0)=false:=by simp;omega
   obtain ⟨f0,f1,f2,f3,f4⟩:=Bf hr0;obtain ⟨S,hS⟩:∃S:Nat,S=fS r:=⟨_,rfl⟩;obtain ⟨X,hX⟩:∃X:Nat,X=xM r:=⟨_,rfl⟩;have hl64:∀w,Calls Tryz.prog 97 #[.int .u64 (m:Int)] w fun e w' => e=.returned (.int .i64 (Ag m:Int))/\w' = w:=fun w=>by
     have:=Tryz.bits_Len64 (m:Int) w (by omega) (by omega);rwa [Int.toNat_natCast,E8 (by omega)] at this
   have hSl:(64:Int) - (Ag m:Int)=(S:Int):=by
     rw [hS,hm.out];unfold fS;have:=Dx (d:=rM r) (by rw [<-hm.out];omega);omega
   rw [<-hS] at f0 f1 f4;rw [<-hX] at f3 f4;have hXm:m * 2 ^ S=X:=by rw [hX,hm.out,hS];rfl
   have hX9:X<18446744073709551616:=by have:=Nat.two_pow_pos S;omega
   have hXi:(m:Int) * 2 ^ S=(X:Int):=by rw [<-hXm];simp
   have hK9:K<2046:=by rw [hK.out];exact Fh hr
   obtain ⟨e1,he1⟩:∃e1:Int,(K:Int)+1+-1023=e1:=⟨_,rfl⟩;obtain ⟨e2,he2⟩:∃e2:Int,e1 - (S:Int)=e2:=⟨_,rfl⟩;obtain ⟨e3,he3⟩:∃e3:Int,e2 - 52=e3:=⟨_,rfl⟩;have g1:-1100<=e1/\e1<=1100:=by omega
   have g2:-1200<=e2/\e2<=1100:=by omega
   have g3:-1300<=e3/\e3<=1100:=by omega
   obtain ⟨⟨d,hd⟩,⟨p,hp⟩⟩:(∃d:Nat,d=(fixN r (k+1)).1)/\∃p:Int,p=(fixN r (k+1)).2:=⟨⟨_,rfl⟩,⟨_,rfl⟩⟩;have hsh:∀wz,Flo wz->Calls Tryz.prog 108 #[.int .u64 (X:Int),.int .i64 e3,.int .i64 ((k:Int)+1),.int .i64 (k:Int),.int .u8 101] wz fun x w' => x=.returned (.tuple #[.int .u64 (d:Int),.int .i64 p])/\Below wz.heap.size wz w' := fun wz hz=>by
     have:=fixed_any hr0 hr (n:=k+1) (by omega) (by omega) (k:Int) hz;rw [<-hX,<-hS,<-hK.out,<-hd,<-hp,show (K:Int) - 1074 - (S:Int)=e3 by omega,show ((k+1:Nat):Int)=(k:Int)+1 by omega] at this;exact this
   obtain ⟨hfx,hq0,hq1⟩:=D9 hr0 hr (n:=k+1) (by omega) (by omega);have d1:1<=d:=by rw [hd];have:=hfx.low;have:0<10 ^ (k+1 - 1):=Nat.pow_pos (by decide);omega
   have d2:d<1000000000000000000:=by
     rw [hd];have h1:=hfx.high;have h2:(10:Nat) ^ (k+1)<=10 ^ 17:=Nat.pow_le_pow_right (by decide) (by omega);have h3:(10:Nat) ^ 17<1000000000000000000:=by decide
     omega
   have hND:Lib.nDigits d=k+1:=by rw [hd];exact C3 (by omega) hfx.low hfx.high
   have p1:-800<=p/\p<=800:=by rw [hp];omega
   have hdne:((d:Int) != 0)=true:=by
     have:(d:Int)≠0:=by omega
     simpa using this
   have hdne2:¬(d:Int)=0:=by omega
   clear hfx hq0 hq1;replace hsh:=Hd hsh;replace hd:=Hd hd;replace hp:=Hd hp;replace hS:=Hd hS;replace hX:=Hd hX;replace hXm:=Hd hXm;replace hl64:=Hd hl64;clear f2;go_wp2_with fail
   refine (hl64.out _).mono ?_;rintro e w' ⟨rfl,rfl⟩;go_wp2_with fail
   generalize hw2:w1.alloc _=w2;have hb12:Below w1.heap.size w1 w2:=by rw [<-hw2];exact (Below.refl _ _).alloc (Nat.le_refl _) _
   have hbuf:∀j,j<24->w2.cell? ⟨w1.heap.size,j,none⟩=some (.int .u8 0)/\w2.frozen? ⟨w1.heap.size,j,none⟩=false:=fun j hj=>by
     rw [<-hw2];refine ⟨?_,World.frozen?_alloc_at _ _ _ _ rfl⟩;rw [World.cell?_alloc_new];have key:∀j:Fin 24,(Array.replicate 24 (Value.int .u8 0))[j.val]?=some (Value.int .u8 0):=fun j=>by simp
     exact key ⟨j,hj⟩
   have hsz2:w2.heap.size=w1.heap.size+1:=by rw [<-hw2];simp
   have hF2:Flo w2:=Flo.below' hF.out (hb01.out.trans (hb12.mono hB1));replace hbuf:=Hd hbuf;replace hw2:=Hd hw2;replace hb12:=Hd hb12;refine (hsh.out _ hF2).mono ?_;rintro e w3 ⟨rfl,hb23⟩;have hbuf3:∀j,j<24->w3.cell? ⟨w1.heap.size,j,none⟩=some (.int .u8 0)/\w3.frozen? ⟨w1.heap.size,j,none⟩=false:=fun j hj=>by
     have hlt:w1.heap.size<w2.heap.size:=by omega
     exact ⟨(hb23.cell (p:=⟨w1.heap.size,j,none⟩) hlt).trans (hbuf.out j hj).1,(hb23.frozen (p:=⟨w1.heap.size,j,none⟩) hlt).trans (hbuf.out j hj).2⟩
   have hb13:Below w1.heap.size w1 w3:=hb12.out.trans (hb23.mono (by omega));have hsz3:w1.heap.size<w3.heap.size:=by have:=hb23.size;omega
   have hb03:Below w.heap.size w w3:=hb01.out.trans (hb13.mono hB1);have hT3 : Lib.TabIs Tryz.prog w3.drew "internal/strconv.uint64pow10" .u64 Lib.pow10Tab := Go.Joins.tab_stays A8 hF.out.tens hb03.drew (Nat.le_refl _);have hnd:=Tryz.internal_strconv_numDigits d d1 (by omega) w3.drew hT3;obtain ⟨N,hN⟩:∃N,N=Lib.nDigits d:=⟨_,rfl⟩;rw [<-hN] at hnd;have hset:=@Er 24 (by decide) (by decide) w3.drew w1.heap.size d p d1 (by omega) (by omega) (by omega) hbuf3;rw [<-hN] at hset;replace hnd:=Hd hnd;replace hset:=Hd hset;replace hbuf3:=Hd hbuf3;replace hb13:=Hd hb13;replace hb23:=Hd hb23;replace hT3:=Hd hT3;replace hN:=Hd hN;go_upto_region 74 with fail
   go_region_with (first | (go_at_call 81;refine hnd.out.mono ?_;rintro e w' ⟨rfl,rfl⟩) | (go_at_call 107;refine hset.out.mono ?_;rintro e w' ⟨j,rfl,hz,hcs,hbb⟩))
   have hz2:=Gs hz;have hjl:j<=N:=by have:=hz.le;rw [Lib.decDigits_length,<-hN.out] at this;exact this
   have hN18:N<=20:=by rw [hN.out];exact Lib.nDigits_le20 d (by omega)
   have hj1:1<=j:=by
     rcases Nat.eq_zero_or_pos j with h9 | h9
     · subst h9
       have:=Eh (List.length_eq_zero_iff.1 hz2.2);rw [B1] at this;omega
     · exact h9
   obtain ⟨pr,rfl⟩:∃pr,j=pr+1:=⟨j - 1,by omega⟩;obtain ⟨dp,hdp⟩:∃dp:Int,(N:Int)+p=dp:=⟨_,rfl⟩;have hpr:¬(pr:Int)<0:=by omega
   have hpr2:((pr+1:Nat):Int) - 1=(pr:Int):=by omega
   have hD:Ai (Lib.decDigits d)=(Lib.decDigits d).take (pr+1):=hz2.1;obtain ⟨D,hDe⟩:∃D:ByteArray,D=⟨((Lib.decDigits d).take (pr+1)).toArray⟩:=⟨_,rfl⟩;have hDl:D.data.toList=Ai (Lib.decDigits d):=by rw [hDe,hD]
   have hDn:D.size=pr+1:=by
     rw [hDe];show ((Lib.decDigits d).take (pr+1)).toArray.size=pr+1;rw [List.size_toArray,List.length_take,Lib.decDigits_length,<-hN.out];omega
   have hDc:∀i (h:i<D.size),w'.cell? ⟨w1.heap.size,i,none⟩=some (.int .u8 ((D.data[i]'h).toNat:Int)):=fun i h=>by
     have hi:i<(Lib.decDigits d).length:=by rw [Lib.decDigits_length,<-hN.out];omega
     rw [hcs i hi];subst hDe;show some (encB _)=some (Value.int .u8 (((((Lib.decDigits d).take (pr+1)).toArray[i]'h:UInt8).toNat:Nat):Int));simp [encB]
   have hb4:Below w1.heap.size w1 w' := hb13.out.drew.trans hbb;have hR4:RowK B w1.heap.size w' v s:=⟨hR1.below hb4 (Nat.le_refl _),fun e=>by have:=(Bw hR1.own _ e).2;omega,by have:=hbb.size;have e9:w3.drew.heap.size=w3.heap.size:=rfl;omega⟩;have hb04:Below w.heap.size w w' := hb01.out.trans (hb4.mono hB1);clear hz hcs hbb hz2 hDe;replace hDc:=Hd hDc;replace hDl:=Hd hDl;replace hD:=Hd hD;replace hR4:=Hd hR4;replace hb04:=Hd hb04;replace hb4:=Hd hb4;have hDni:(D.size:Int)=(pr:Int)+1:=by omega
   have hNk:N=k+1:=by rw [hN.out];exact hND
   have hfe:=fmtE_any (L:=24) (sl:=.slice (some ⟨w1.heap.size,0,none⟩) 24 24) (neg:=nb) (sh:=false) (dp:=dp) (prec:=(k:Int)) hR4.out hs (by omega) (by omega) (by omega) (by omega) (by omega) (by omega) (by omega) (by decide) (Nat.le_trans hB hb04.out.size) (fun _=>rfl) hDc.out;rw [hDni] at hfe;replace hDn:=Hd hDn;replace hDni:=Hd hDni;replace hfe:=Hd hfe;replace hNk:=Hd hNk;replace hND:=Hd hND;go_wp2_with fail
   refine hfe.out.mono ?_;rintro e w5 ⟨v', t,rfl,ht,hQ,hb⟩;replace hQ:=Hd hQ;rw [hDl.out,Int.toNat_natCast,<-hdp,hNk.out,hd.out,hp.out] at ht;replace ht:=Hd ht;have hb05:=(hb04.out.mono hB).trans hb;go_wp2_with fail
   go_ret;refine ⟨v', t,rfl,?_,hQ.out,hb05⟩;rw [ht.out,hnb.out]
theorem effP_pos (neg:Bool) (D:List UInt8) (dp:Int) (k:Nat):0<(effP neg D dp k).length:=by unfold effP;simp;omega
set_option maxRecDepth 100000 in
set_option maxHeartbeats 1600000 in
theorem ifmtP_any {w:World} {n:Nat} (hn:n<18446744073709551616) (hr:n % 9223372036854775808<9218868437227405312) (hz0:0<n % 9223372036854775808) (hF:Flo w) (hO:Opt w) {k:Nat} (hk:k<=16) :
   Calls Tryz.prog 69 #[.float .f64 n,.int .u8 101,.int .i64 (k:Int),.int .i64 64] w fun e w' => ∃t:ByteArray,e=.returned (.string t)/\t.data.toList=effP (decide (9223372036854775808<=n)) (Ai (Lib.decDigits (fixN (n % 9223372036854775808) (k+1)).1)) (((k+1:Nat):Int)+(fixN (n % 9223372036854775808) (k+1)).2) k/\Below w.heap.size w w' := by
 obtain ⟨ht,hsz,hb,i,z,hi,hz,hi1,hi2,hz1⟩:=eByte1
 have hmx:max ((k:Int)+4) 24=24:=by omega
 have hk9:(k:Int)<=16:=by omega
 replace hF:=Hd hF
 replace hO:=Hd hO
 go_enter Tryz.func69,Tryz.ntmps69
 go_wp2_with (at_make;refine wpList_make_own _ rfl _ _ 50 rfl w.heap.size 5 i z 1 ht hi hz hi1 .i64 .i64 24 24 rfl rfl rfl (by rw [hi2];decide) (by decide) (Nat.le_refl _) ?_)
 intro w1 hw1 hg1
 have hb1:Below w.heap.size w w1:=(Fr.of_grown hg1).below (Nat.le_refl _) (fun i hi e=>by cases e)
 have hR1:Row w.heap.size w1 (.slice (some ⟨w.heap.size,0,none⟩) 0 24) ⟨#[]⟩:=⟨hw1⟩
 have hF1:Flo w1:=⟨hF.out.pows.below hb1 hF.out.pows.lt,Go.Joins.tab_stays A8 hF.out.tens hb1 (Nat.le_refl _)⟩
 have hO1:Opt w1:=hO.out.below hb1
 replace hb1:=Hd hb1
 replace hw1:=Hd hw1
 replace hg1:=Hd hg1
 replace hR1:=Hd hR1
 replace hF1:=Hd hF1
 replace hO1:=Hd hO1
 go_wp2_with fail
 refine (ftoaP_any (B:=w.heap.size) hn hr hz0 hR1.out (by decide) hb1.out.size hF.out.pows.lt hF1.out hO1.out hk).mono ?_
 rintro e w2 ⟨v2,t,rfl,ht2,hR2,hb2⟩
 rw [Ex] at hR2
 have hcv:=hR2.text (by rw [<-Array.length_toList,ht2];exact effP_pos _ _ _ _)
 have hb02:=hb1.out.trans hb2
 replace ht2:=Hd ht2
 replace hR2:=Hd hR2
 go_wp2_with fail
 go_ret
 exact ⟨t,rfl,ht2.out,hb02⟩
theorem sfmtP_any {w:World} {n:Nat} (hn:n<18446744073709551616) (hr:n % 9223372036854775808<9218868437227405312) (hz0:0<n % 9223372036854775808) (hF:Flo w) (hO:Opt w) {k:Nat} (hk:k<=16) :
   Calls Tryz.prog 53 #[.float .f64 n,.int .u8 101,.int .i64 (k:Int),.int .i64 64] w fun e w' => ∃t:ByteArray,e=.returned (.string t)/\t.data.toList=effP (decide (9223372036854775808<=n)) (Ai (Lib.decDigits (fixN (n % 9223372036854775808) (k+1)).1)) (((k+1:Nat):Int)+(fixN (n % 9223372036854775808) (k+1)).2) k/\Below w.heap.size w w' := by
 have h:=ifmtP_any hn hr hz0 hF hO hk
 replace h:=Hd h
 clear hF hO
 go_enter Tryz.func53,Tryz.ntmps53
 go_wp2_with fail
 refine h.out.mono ?_
 rintro e w2 ⟨t,rfl,ht,hb⟩
 replace ht:=Hd ht
 go_wp2_with fail
 go_ret
 exact ⟨t,rfl,ht.out,hb⟩
end Go.Proofs.YteoalcmhdoopnaaGreatDoor
