/- internal/strconv.ftoa64: the shortest digits, written with an exponent or without. -/
import Derived.Test.YtagkgfniihiinaaGreatDoorJ75
import Derived.Test.YtagkgfniihiinaaGreatDoorSetW
import Derived.Test.YtagkgfniihiinaaGreatDoorJ77
import Derived.Lib.ItoaLen
set_option linter.all false
namespace Go.Proofs.YtagkgfniihiinaaGreatDoor
open Go.RowKit
theorem fbits_run (r:Nat) (w:World):(callFunc 137 #[.float .f64 r]).run Tryz.prog w=.ok (.value (.int .u64 r)) w:=by kernel_rfl
theorem bitLenAux_eq:∀(f x:Nat),x<2 ^ f->Lib.bitLenAux f x=Aj x
 | 0,x,h=>by
   obtain rfl:x=0:=by simpa using h
   rfl
 | f+1,x,h=>by
   unfold Lib.bitLenAux;by_cases h0:x=0
   · rw [if_pos h0,h0];rfl
   · rw [if_neg h0,bitLenAux_eq f (x / 2) (by rw [Nat.pow_succ] at h;omega)]
     by_cases h1:x=1
     · subst h1;rfl
     · unfold Aj
       rw [if_neg h0,if_neg (by omega),Nat.log2_def x,if_pos (by omega)];omega
theorem bitLen_eq {x:Nat} (h:x<18446744073709551616):Lib.bitLen x=Aj x:=bitLenAux_eq 64 x h
theorem rndU_le {u b:Nat} (h:u<=4 * b):rndU u<=b+1:=by unfold rndU;omega
theorem short_top {r:Nat} (h:0<r) (hr:r<9218868437227405312):fMin r<=500000000000000002/\fMax r<=500000000000000000/\rndU (usc r (xM r))<=500000000000000001:=by
 obtain ⟨⟨l0,l1,l9⟩,⟨m0,m1,m9⟩,⟨g0,g1,g9⟩⟩:=x_spec h;have u0:=usc_lt l1 h hr;have u1:=usc_lt g1 h hr;have u2:=usc_lt m1 h hr;refine ⟨?_,?_,rndU_le (by omega)⟩
 · unfold fMin;omega
 · unfold fMax;omega
theorem Dj {r:Nat} (h:0<r) (hr:r<9218868437227405312):1<=(A2 r).1/\(A2 r).1<1000000000000000000/\-347<=(A2 r).2/\(A2 r).2<=349:=by
 obtain ⟨p0,p1,p2,p3⟩:=Ex h hr;obtain ⟨t0,t1,t2⟩:=short_top h hr;refine ⟨inI_pos h (short_ok h hr),?_⟩;rcases short_between h hr with ⟨a,b,c⟩ | ⟨a,b,c⟩
 · rw [a,b];omega
 · rw [b,c]
   split<;>omega
theorem stripZ_nz {l:List UInt8} {j:Nat} (h:NZ l j):As l=l.take j/\(As l).length=j:=by
 have h2:NZ l (As l).length:=by
   obtain ⟨n,hn⟩:=Dv l;have hlen:=congrArg List.length hn;rw [List.length_append,List.length_replicate] at hlen;refine ⟨Fp l,fun i h1 h3=>?_,?_⟩
   · have h5:(As l++List.replicate n (48:UInt8))[i]?=some 48:=by
       rw [List.getElem?_append_right h1,List.getElem?_replicate,if_pos (by omega)]
     rwa [<-hn] at h5
   · rcases stripZ_last l with h4 | ⟨m,c,h4,h5⟩
     · left;rw [h4];rfl
     · right
       have h6:(As l++List.replicate n (48:UInt8))[(As l).length - 1]?=some c:=by
         rw [h4,List.length_append,List.length_singleton,Nat.add_sub_cancel,List.append_assoc,List.getElem?_append_right (Nat.le_refl _),Nat.sub_self];rfl
       rw [<-hn] at h6;rw [h6];intro e;exact h5 (Option.some.inj e)
 have e:=h2.uniq h;exact ⟨by rw [<-e];exact stripZ_take l,e⟩
theorem C8 : Tryz.prog.globalNamed "internal/strconv.uint64pow10" = some 5 := by kernel_rfl
structure Flo (w:World):Prop where
 pows:Pows w
 tens : Lib.TabIs Tryz.prog w "internal/strconv.uint64pow10" .u64 Lib.pow10Tab
set_option maxRecDepth 100000 in
set_option maxHeartbeats 6400000 in
theorem ftoaE_any {B:Nat} {w:World} {n:Nat} {v:Value} {s:ByteArray} (hn:n<18446744073709551616) (hr:n % 9223372036854775808<9218868437227405312) (hR:Row B w v s) (hs:s.size<=1000) (hB:B<=w.heap.size) (hPB:8<B) (hF:Flo w) :
   Calls Tryz.prog 112 #[v,.float .f64 n,.int .u8 101,.int .i64 (-1)] w fun e w' => ∃v' t,e=.returned v' /\ t.data.toList=effE (decide (9223372036854775808<=n)) (digL (n % 9223372036854775808)) (Bh (n % 9223372036854775808))/\Row B w' v' (s++t)/\Below B w w' := by
 have hfb:=fbits_run n
 obtain ⟨r,hre⟩:∃r,r=n % 9223372036854775808:=⟨_,rfl⟩
 rw [<-hre] at hr ⊢
 obtain ⟨sg,hsg⟩:∃sg:Nat,(n:Int) / 9223372036854775808=(sg:Int):=⟨n / 9223372036854775808,by omega⟩
 obtain ⟨q,hq⟩:∃q:Nat,(n:Int) / 4503599627370496=(q:Int):=⟨n / 4503599627370496,by omega⟩
 have hq9:(q:Int)<=4095:=by omega
 obtain ⟨E,hE⟩:∃E:Nat,E=q % 2048:=⟨_,rfl⟩
 have hand1:bits .and .i64 (q:Int) 2047=(E:Int):=by
   have:=D5 (x:=q) (y:=2047) (by omega) (by omega);rw [show q &&& 2047=q % 2048 from Nat.and_two_pow_sub_one_eq_mod q 11,<-hE] at this;exact this
 obtain ⟨M,hM⟩:∃M:Nat,M=n % 4503599627370496:=⟨_,rfl⟩
 have hand2:bits .and .u64 (n:Int) 4503599627370495=(M:Int):=by
   have:=B0 (x:=n) (y:=4503599627370495) (by omega) (by omega);rw [show n &&& 4503599627370495=n % 4503599627370496 from Nat.and_two_pow_sub_one_eq_mod n 52,<-hM] at this;exact this
 have hEr:E=r / 4503599627370496:=by omega
 have hMr:M=r % 4503599627370496:=by omega
 have hE9:((E:Int) == 2047)=false:=by simp;omega
 have hE9' : ¬(E:Int)=2047:=by omega
 obtain ⟨nb,hnb⟩:∃nb:Bool,nb=decide (9223372036854775808<=n):=⟨_,rfl⟩
 have hneg:((sg:Int) != 0)=nb:=by
   rw [show ((sg:Int) != 0)=decide ((sg:Int)≠0) by cases h:((sg:Int) != 0)<;>simp_all,hnb];exact decide_eq_decide.2 (by omega)
 rw [<-hnb]
 have hq0:(0:Int)<=(q:Int):=by omega
 replace hR:=Hd hR
 replace hF:=Hd hF
 replace hnb:=Hd hnb
 replace hE:=Hd hE
 replace hM:=Hd hM
 replace hEr:=Hd hEr
 replace hMr:=Hd hMr
 replace hre:=Hd hre
 have hM9:M<4503599627370496:=by have:=hM.out;omega
 go_enter Tryz.func112,Tryz.ntmps112
 go_upto_region 14 with fail
 go_quiet (fail)
 go_upto_if 78 with fail
 obtain ⟨w1,hw1⟩:∃w1,w1=w.drewN nq:=⟨_,rfl⟩
 have hb01:Below w.heap.size w w1:=by rw [hw1];exact Below.drewN (Below.refl _ _)
 rw [<-hw1]
 have hor:bits .or .u64 (M:Int) 4503599627370496=((4503599627370496+M:Nat):Int):=by
   have:=Ba (x:=M) (y:=4503599627370496) (by omega) (by omega);rw [show M ||| 4503599627370496=4503599627370496+M by rw [Nat.or_comm];exact (Nat.two_pow_add_eq_or_of_lt (i:=52) hM9 1).symm] at this;exact this
 obtain ⟨K,hK⟩:∃K:Nat,K=rK r:=⟨_,rfl⟩
 obtain ⟨m,hm⟩:∃m:Nat,m=rM r:=⟨_,rfl⟩
 have hKE:K=E - 1:=by rw [hK,hEr.out];rfl
 have hmE:m=if E=0 then M else 4503599627370496+M:=by
   have hMr:=hMr.out;have hEr:=hEr.out;rw [hm,hMr];unfold rM;by_cases h0:E=0
   · rw [if_pos h0,if_pos (by omega)];omega
   · rw [if_neg h0,if_neg (by omega)]
 have hm9:m<9007199254740992:=by rw [hmE];split<;>omega
 replace hw1:=Hd hw1
 replace hmE:=Hd hmE
 replace hb01:=Hd hb01
 replace hK:=Hd hK
 replace hm:=Hd hm
 go_cut [14,15] from 78 to 84 (fun s14 s15 wx=>s14=.int .i64 ((K:Int)+1)/\s15=.int .u64 (m:Int)/\wx=w1)
 case first=>
   by_cases h0:E=0
   · have hm0:m=M:=by rw [hmE.out,if_pos h0]
     have hk0:(K:Int)=0:=by omega
     have hE0:((E:Int) == 0)=true:=by simp;omega
     have hE1:(E:Int)=0:=by omega
     subst hm0;clear hKE hEr hE hMr hM;go_wp2_with fail
     go_meet
     exact ⟨by first | rfl | simp [hk0],rfl,rfl⟩
   · have hm0:((4503599627370496+M:Nat):Int)=(m:Int):=by rw [hmE.out,if_neg h0]
     have hk0:(E:Int)=(K:Int)+1:=by omega
     have hE0:((E:Int) == 0)=false:=by simp;omega
     rw [hm0] at hor;have hE1:¬(E:Int)=0:=by omega
     clear hKE hEr hE hMr hM;go_wp2_with fail
     go_meet
     exact ⟨by first | rfl | rw [hk0],rfl,rfl⟩
 case rest=>
   obtain ⟨rfl,rfl,hww⟩:=hcut;obtain rfl:=hww.symm;clear hKE hEr hE hMr hM hand1 hand2 hE9 hE9' hor hmE;have hB1:w.heap.size<=w1.heap.size:=hb01.out.size;have hR1:Row B w1 v s:=hR.out.below hb01.out (Nat.le_refl _);by_cases h0:m=0
   · have hr0:r=0:=by
       have:=hm.out;rcases Nat.eq_zero_or_pos r with h9 | h9
       · exact h9
       · have:=rM_pos h9;omega
     have hmz:((m:Int) == 0)=true:=by simp;omega
     have hB2:B<=w1.heap.size:=Nat.le_trans hB hB1;have hK0:RowK B 8 w1 v s:=⟨hR1,fun e=>by have:=(A1 hR1.own _ e).1;omega,Nat.lt_of_lt_of_le hF.out.pows.lt hB1⟩;replace hR1:=Hd hR1;replace hK0:=Hd hK0;subst h0;subst hr0;go_wp2_with fail
     refine (fmtE_any (D:=⟨#[]⟩) (k:=8) (L:=0) hK0.out hs (by decide) (by decide) (by decide) (by decide) (by decide) (by decide) (by decide) (by decide) hB2 (fun h=>absurd rfl h) (fun j h=>absurd h (Nat.not_lt_zero _))).mono ?_;rintro e w2 ⟨v', t,rfl,ht,hQ,hb⟩;replace hQ:=Hd hQ;go_wp2_with fail
     go_ret;exact ⟨v', t,rfl,ht,hQ.out,(hb01.out.mono hB).trans hb⟩
   · have hr0:0<r:=by
       rcases Nat.eq_zero_or_pos r with h9 | h9
       · exact absurd (by rw [hm.out,h9];rfl) h0
       · exact h9
     have hmz:((m:Int) == 0)=false:=by simp;omega
     obtain ⟨f0,f1,f2,f3,f4⟩:=Dx hr0;obtain ⟨S,hS⟩:∃S:Nat,S=fS r:=⟨_,rfl⟩;obtain ⟨X,hX⟩:∃X:Nat,X=xM r:=⟨_,rfl⟩;have hl64:∀w,Calls Tryz.prog 141 #[.int .u64 (m:Int)] w fun e w' => e=.returned (.int .i64 (Aj m:Int))/\w' = w:=fun w=>by
       have:=Tryz.bits_Len64 (m:Int) w (by omega) (by omega);rwa [Int.toNat_natCast,bitLen_eq (by omega)] at this
     have hSl:(64:Int) - (Aj m:Int)=(S:Int):=by
       rw [hS,hm.out];unfold fS;have:=Fx (d:=rM r) (by rw [<-hm.out];omega);omega
     rw [<-hS] at f0 f1 f4;rw [<-hX] at f3 f4;have hXm:m * 2 ^ S=X:=by rw [hX,hm.out,hS];rfl
     have hX9:X<18446744073709551616:=by have:=Nat.two_pow_pos S;omega
     have hXi:(m:Int) * 2 ^ S=(X:Int):=by rw [<-hXm];simp
     have hK9:K<2046:=by rw [hK.out];exact rK_lt hr
     obtain ⟨e1,he1⟩:∃e1:Int,(K:Int)+1+-1023=e1:=⟨_,rfl⟩;obtain ⟨e2,he2⟩:∃e2:Int,e1 - (S:Int)=e2:=⟨_,rfl⟩;obtain ⟨e3,he3⟩:∃e3:Int,e2 - 52=e3:=⟨_,rfl⟩;have g1:-1100<=e1/\e1<=1100:=by omega
     have g2:-1200<=e2/\e2<=1100:=by omega
     have g3:-1300<=e3/\e3<=1100:=by omega
     obtain ⟨d,hd⟩:∃d:Nat,d=(A2 r).1:=⟨_,rfl⟩;obtain ⟨p,hp⟩:∃p:Int,p=(A2 r).2:=⟨_,rfl⟩;have hsh:∀wz,Pows wz->Calls Tryz.prog 149 #[.int .u64 (X:Int),.int .i64 e3] wz fun x w' => x=.returned (.tuple #[.int .u64 (d:Int),.int .i64 p])/\Below wz.heap.size wz w' := fun wz hz=>by
       have:=shortW_any hr0 hr hz;rw [<-hX,<-hS,<-hK.out,<-hd,<-hp,show (K:Int) - 1074 - (S:Int)=e3 by omega] at this;exact this
     replace hsh:=Hd hsh;replace hd:=Hd hd;replace hp:=Hd hp;replace hS:=Hd hS;replace hX:=Hd hX;replace hXm:=Hd hXm;replace hl64:=Hd hl64;clear f2;go_wp2_with fail
     refine (hl64.out _).mono ?_;rintro e w' ⟨rfl,rfl⟩;go_wp2_with fail
     generalize hw2:w1.alloc _=w2;have hb12:Below w1.heap.size w1 w2:=by rw [<-hw2];exact (Below.refl _ _).alloc (Nat.le_refl _) _
     have hbuf:∀j,j<32->w2.cell? ⟨w1.heap.size,j,none⟩=some (.int .u8 0)/\w2.frozen? ⟨w1.heap.size,j,none⟩=false:=fun j hj=>by
       rw [<-hw2];refine ⟨?_,World.frozen?_alloc_at _ _ _ _ rfl⟩;rw [World.cell?_alloc_new];have key:∀j:Fin 32,(Array.replicate 32 (Value.int .u8 0))[j.val]?=some (Value.int .u8 0):=fun j=>by simp
       exact key ⟨j,hj⟩
     have hsz2:w2.heap.size=w1.heap.size+1:=by rw [<-hw2];simp
     have hP2:Pows w2:=(hF.out.pows.below hb01.out hF.out.pows.lt).below hb12 (Nat.lt_of_lt_of_le hF.out.pows.lt hB1);replace hbuf:=Hd hbuf;replace hw2:=Hd hw2;replace hb12:=Hd hb12;refine (hsh.out _ hP2).mono ?_;rintro e w3 ⟨rfl,hb23⟩;obtain ⟨d1,d2,p1,p2⟩:=Dj hr0 hr;rw [<-hd.out] at d1 d2;rw [<-hp.out] at p1 p2;have hbuf3:∀j,j<32->w3.cell? ⟨w1.heap.size,j,none⟩=some (.int .u8 0)/\w3.frozen? ⟨w1.heap.size,j,none⟩=false:=fun j hj=>by
       have hlt:w1.heap.size<w2.heap.size:=by omega
       exact ⟨(hb23.cell (p:=⟨w1.heap.size,j,none⟩) hlt).trans (hbuf.out j hj).1,(hb23.frozen (p:=⟨w1.heap.size,j,none⟩) hlt).trans (hbuf.out j hj).2⟩
     have hb13:Below w1.heap.size w1 w3:=hb12.out.trans (hb23.mono (by omega));have hsz3:w1.heap.size<w3.heap.size:=by have:=hb23.size;omega
     have hb03:Below w.heap.size w w3:=hb01.out.trans (hb13.mono hB1);have hT3 : Lib.TabIs Tryz.prog w3.drew "internal/strconv.uint64pow10" .u64 Lib.pow10Tab := Go.Joins.tab_stays C8 hF.out.tens hb03.drew (Nat.le_refl _);have hnd:=Tryz.internal_strconv_numDigits d d1 (by omega) w3.drew hT3;obtain ⟨N,hN⟩:∃N,N=Lib.nDigits d:=⟨_,rfl⟩;rw [<-hN] at hnd;have hset:=@setDigits_any w3.drew w1.heap.size d p d1 (by omega) (by omega) (by omega) hbuf3;rw [<-hN] at hset;replace hnd:=Hd hnd;replace hset:=Hd hset;replace hbuf3:=Hd hbuf3;replace hb13:=Hd hb13;replace hb23:=Hd hb23;replace hT3:=Hd hT3;replace hN:=Hd hN;go_upto_region 38 with fail
     go_region_with (first | (go_at_call 126;refine hnd.out.mono ?_;rintro e w' ⟨rfl,rfl⟩) | (go_at_call 143;refine hset.out.mono ?_;rintro e w' ⟨j,rfl,hz,hcs,hbb⟩))
     have hz2:=stripZ_nz hz;have hjl:j<=N:=by have:=hz.le;rw [Lib.decDigits_length,<-hN.out] at this;exact this
     have hN18:N<=20:=by rw [hN.out];exact Lib.nDigits_le20 d (by omega)
     have hj1:1<=j:=by
       rcases Nat.eq_zero_or_pos j with h9 | h9
       · subst h9
         have:=stripZ_nil (List.length_eq_zero_iff.1 hz2.2);rw [Ec] at this;omega
       · exact h9
     obtain ⟨pr,rfl⟩:∃pr,j=pr+1:=⟨j - 1,by omega⟩;obtain ⟨dp,hdp⟩:∃dp:Int,(N:Int)+p=dp:=⟨_,rfl⟩;have hpr:¬(pr:Int)<0:=by omega
     have hpr2:((pr+1:Nat):Int) - 1=(pr:Int):=by omega
     have hD:digL r=(Lib.decDigits d).take (pr+1):=by
       unfold digL;rw [if_neg (by omega),<-hd.out];exact hz2.1
     have hPt:Bh r=dp:=by
       unfold Bh;rw [if_neg (by omega),<-hd.out,<-hp.out,<-hN.out];exact hdp
     obtain ⟨D,hDe⟩:∃D:ByteArray,D=⟨((Lib.decDigits d).take (pr+1)).toArray⟩:=⟨_,rfl⟩;have hDl:D.data.toList=digL r:=by rw [hDe,hD]
     have hDn:D.size=pr+1:=by
       rw [hDe];show ((Lib.decDigits d).take (pr+1)).toArray.size=pr+1;rw [List.size_toArray,List.length_take,Lib.decDigits_length,<-hN.out];omega
     have hDc:∀i (h:i<D.size),w'.cell? ⟨w1.heap.size,i,none⟩=some (.int .u8 ((D.data[i]'h).toNat:Int)):=fun i h=>by
       have hi:i<(Lib.decDigits d).length:=by rw [Lib.decDigits_length,<-hN.out];omega
       rw [hcs i hi];subst hDe;show some (encB _)=some (Value.int .u8 (((((Lib.decDigits d).take (pr+1)).toArray[i]'h:UInt8).toNat:Nat):Int));simp [encB]
     have hb4:Below w1.heap.size w1 w' := hb13.out.drew.trans hbb;have hR4:RowK B w1.heap.size w' v s:=⟨hR1.below hb4 (Nat.le_refl _),fun e=>by have:=(A1 hR1.own _ e).2;omega,by have:=hbb.size;have e9:w3.drew.heap.size=w3.heap.size:=rfl;omega⟩;have hb04:Below w.heap.size w w' := hb01.out.trans (hb4.mono hB1);clear hz hcs hbb hz2 hDe;replace hDc:=Hd hDc;replace hDl:=Hd hDl;replace hD:=Hd hD;replace hPt:=Hd hPt;replace hR4:=Hd hR4;replace hb04:=Hd hb04;replace hb4:=Hd hb4;have hDni:(D.size:Int)=(pr:Int)+1:=by omega
     replace hDn:=Hd hDn;replace hDni:=Hd hDni;have hfe:=fmtE_any (L:=32) (sl:=.slice (some ⟨w1.heap.size,0,none⟩) 32 32) (neg:=nb) (sh:=true) (dp:=dp) (prec:=(pr:Int)) hR4.out hs (by have:=hDn.out;omega) (by omega) (by omega) (by omega) (by omega) (by have:=hDn.out;omega) (by have:=hDn.out;omega) (by decide) (Nat.le_trans hB hb04.out.size) (fun _=>rfl) hDc.out;rw [hDni.out] at hfe;replace hfe:=Hd hfe;go_wp2_with fail
     refine hfe.out.mono ?_;rintro e w5 ⟨v', t,rfl,ht,hQ,hb⟩;replace hQ:=Hd hQ;rw [hDl.out,hPt.out.symm,Int.toNat_natCast,show pr=(digL r).length - 1 by rw [<-hDl.out,Array.length_toList];have:=hDn.out;show pr=D.size - 1;omega,effP_short] at ht;replace ht:=Hd ht;have hb05:=(hb04.out.mono hB).trans hb;go_wp2_with fail
     go_ret;refine ⟨v', t,rfl,?_,hQ.out,hb05⟩;rw [ht.out,hnb.out]
set_option maxRecDepth 100000 in
set_option maxHeartbeats 6400000 in
theorem ftoaF_any {B:Nat} {w:World} {n:Nat} {v:Value} {s:ByteArray} (hn:n<18446744073709551616) (hr:n % 9223372036854775808<9218868437227405312) (hR:Row B w v s) (hs:s.size<=1000) (hB:B<=w.heap.size) (hPB:8<B) (hF:Flo w) :
   Calls Tryz.prog 112 #[v,.float .f64 n,.int .u8 102,.int .i64 (-1)] w fun e w' => ∃v' t,e=.returned v' /\ t.data.toList=effF (decide (9223372036854775808<=n)) (digL (n % 9223372036854775808)) (Bh (n % 9223372036854775808))/\Row B w' v' (s++t)/\Below B w w' := by
 have hfb:=fbits_run n
 obtain ⟨r,hre⟩:∃r,r=n % 9223372036854775808:=⟨_,rfl⟩
 rw [<-hre] at hr ⊢
 obtain ⟨sg,hsg⟩:∃sg:Nat,(n:Int) / 9223372036854775808=(sg:Int):=⟨n / 9223372036854775808,by omega⟩
 obtain ⟨q,hq⟩:∃q:Nat,(n:Int) / 4503599627370496=(q:Int):=⟨n / 4503599627370496,by omega⟩
 have hq9:(q:Int)<=4095:=by omega
 obtain ⟨E,hE⟩:∃E:Nat,E=q % 2048:=⟨_,rfl⟩
 have hand1:bits .and .i64 (q:Int) 2047=(E:Int):=by
   have:=D5 (x:=q) (y:=2047) (by omega) (by omega);rw [show q &&& 2047=q % 2048 from Nat.and_two_pow_sub_one_eq_mod q 11,<-hE] at this;exact this
 obtain ⟨M,hM⟩:∃M:Nat,M=n % 4503599627370496:=⟨_,rfl⟩
 have hand2:bits .and .u64 (n:Int) 4503599627370495=(M:Int):=by
   have:=B0 (x:=n) (y:=4503599627370495) (by omega) (by omega);rw [show n &&& 4503599627370495=n % 4503599627370496 from Nat.and_two_pow_sub_one_eq_mod n 52,<-hM] at this;exact this
 have hEr:E=r / 4503599627370496:=by omega
 have hMr:M=r % 4503599627370496:=by omega
 have hE9:((E:Int) == 2047)=false:=by simp;omega
 have hE9' : ¬(E:Int)=2047:=by omega
 obtain ⟨nb,hnb⟩:∃nb:Bool,nb=decide (9223372036854775808<=n):=⟨_,rfl⟩
 have hneg:((sg:Int) != 0)=nb:=by
   rw [show ((sg:Int) != 0)=decide ((sg:Int)≠0) by cases h:((sg:Int) != 0)<;>simp_all,hnb];exact decide_eq_decide.2 (by omega)
 rw [<-hnb]
 have hq0:(0:Int)<=(q:Int):=by omega
 replace hR:=Hd hR
 replace hF:=Hd hF
 replace hnb:=Hd hnb
 replace hE:=Hd hE
 replace hM:=Hd hM
 replace hEr:=Hd hEr
 replace hMr:=Hd hMr
 replace hre:=Hd hre
 have hM9:M<4503599627370496:=by have:=hM.out;omega
 go_enter Tryz.func112,Tryz.ntmps112
 go_upto_region 14 with fail
 go_quiet (fail)
 go_upto_if 78 with fail
 obtain ⟨w1,hw1⟩:∃w1,w1=w.drewN nq:=⟨_,rfl⟩
 have hb01:Below w.heap.size w w1:=by rw [hw1];exact Below.drewN (Below.refl _ _)
 rw [<-hw1]
 have hor:bits .or .u64 (M:Int) 4503599627370496=((4503599627370496+M:Nat):Int):=by
   have:=Ba (x:=M) (y:=4503599627370496) (by omega) (by omega);rw [show M ||| 4503599627370496=4503599627370496+M by rw [Nat.or_comm];exact (Nat.two_pow_add_eq_or_of_lt (i:=52) hM9 1).symm] at this;exact this
 obtain ⟨K,hK⟩:∃K:Nat,K=rK r:=⟨_,rfl⟩
 obtain ⟨m,hm⟩:∃m:Nat,m=rM r:=⟨_,rfl⟩
 have hKE:K=E - 1:=by rw [hK,hEr.out];rfl
 have hmE:m=if E=0 then M else 4503599627370496+M:=by
   have hMr:=hMr.out;have hEr:=hEr.out;rw [hm,hMr];unfold rM;by_cases h0:E=0
   · rw [if_pos h0,if_pos (by omega)];omega
   · rw [if_neg h0,if_neg (by omega)]
 have hm9:m<9007199254740992:=by rw [hmE];split<;>omega
 replace hw1:=Hd hw1
 replace hmE:=Hd hmE
 replace hb01:=Hd hb01
 replace hK:=Hd hK
 replace hm:=Hd hm
 go_cut [14,15] from 78 to 84 (fun s14 s15 wx=>s14=.int .i64 ((K:Int)+1)/\s15=.int .u64 (m:Int)/\wx=w1)
 case first=>
   by_cases h0:E=0
   · have hm0:m=M:=by rw [hmE.out,if_pos h0]
     have hk0:(K:Int)=0:=by omega
     have hE0:((E:Int) == 0)=true:=by simp;omega
     have hE1:(E:Int)=0:=by omega
     subst hm0;clear hKE hEr hE hMr hM;go_wp2_with fail
     go_meet
     exact ⟨by first | rfl | simp [hk0],rfl,rfl⟩
   · have hm0:((4503599627370496+M:Nat):Int)=(m:Int):=by rw [hmE.out,if_neg h0]
     have hk0:(E:Int)=(K:Int)+1:=by omega
     have hE0:((E:Int) == 0)=false:=by simp;omega
     rw [hm0] at hor;have hE1:¬(E:Int)=0:=by omega
     clear hKE hEr hE hMr hM;go_wp2_with fail
     go_meet
     exact ⟨by first | rfl | rw [hk0],rfl,rfl⟩
 case rest=>
   obtain ⟨rfl,rfl,hww⟩:=hcut;obtain rfl:=hww.symm;clear hKE hEr hE hMr hM hand1 hand2 hE9 hE9' hor hmE;have hB1:w.heap.size<=w1.heap.size:=hb01.out.size;have hR1:Row B w1 v s:=hR.out.below hb01.out (Nat.le_refl _);by_cases h0:m=0
   · have hr0:r=0:=by
       have:=hm.out;rcases Nat.eq_zero_or_pos r with h9 | h9
       · exact h9
       · have:=rM_pos h9;omega
     have hmz:((m:Int) == 0)=true:=by simp;omega
     have hB2:B<=w1.heap.size:=Nat.le_trans hB hB1;have hK0:RowK B 8 w1 v s:=⟨hR1,fun e=>by have:=(A1 hR1.own _ e).1;omega,Nat.lt_of_lt_of_le hF.out.pows.lt hB1⟩;replace hR1:=Hd hR1;replace hK0:=Hd hK0;subst h0;subst hr0;go_wp2_with fail
     refine (fmtF_any (D:=⟨#[]⟩) (k:=8) (L:=0) hK0.out hs (by decide) (by decide) (by decide) (by decide) (by decide) (by decide) (by decide) (by decide) (by decide) (by decide) hB2 (fun h=>absurd rfl h) (fun j h=>absurd h (Nat.not_lt_zero _))).mono ?_;rintro e w2 ⟨v', t,rfl,ht,hQ,hb⟩;replace hQ:=Hd hQ;go_wp2_with fail
     go_ret;exact ⟨v', t,rfl,ht,hQ.out,(hb01.out.mono hB).trans hb⟩
   · have hr0:0<r:=by
       rcases Nat.eq_zero_or_pos r with h9 | h9
       · exact absurd (by rw [hm.out,h9];rfl) h0
       · exact h9
     have hmz:((m:Int) == 0)=false:=by simp;omega
     obtain ⟨f0,f1,f2,f3,f4⟩:=Dx hr0;obtain ⟨S,hS⟩:∃S:Nat,S=fS r:=⟨_,rfl⟩;obtain ⟨X,hX⟩:∃X:Nat,X=xM r:=⟨_,rfl⟩;have hl64:∀w,Calls Tryz.prog 141 #[.int .u64 (m:Int)] w fun e w' => e=.returned (.int .i64 (Aj m:Int))/\w' = w:=fun w=>by
       have:=Tryz.bits_Len64 (m:Int) w (by omega) (by omega);rwa [Int.toNat_natCast,bitLen_eq (by omega)] at this
     have hSl:(64:Int) - (Aj m:Int)=(S:Int):=by
       rw [hS,hm.out];unfold fS;have:=Fx (d:=rM r) (by rw [<-hm.out];omega);omega
     rw [<-hS] at f0 f1 f4;rw [<-hX] at f3 f4;have hXm:m * 2 ^ S=X:=by rw [hX,hm.out,hS];rfl
     have hX9:X<18446744073709551616:=by have:=Nat.two_pow_pos S;omega
     have hXi:(m:Int) * 2 ^ S=(X:Int):=by rw [<-hXm];simp
     have hK9:K<2046:=by rw [hK.out];exact rK_lt hr
     obtain ⟨e1,he1⟩:∃e1:Int,(K:Int)+1+-1023=e1:=⟨_,rfl⟩;obtain ⟨e2,he2⟩:∃e2:Int,e1 - (S:Int)=e2:=⟨_,rfl⟩;obtain ⟨e3,he3⟩:∃e3:Int,e2 - 52=e3:=⟨_,rfl⟩;have g1:-1100<=e1/\e1<=1100:=by omega
     have g2:-1200<=e2/\e2<=1100:=by omega
     have g3:-1300<=e3/\e3<=1100:=by omega
     obtain ⟨d,hd⟩:∃d:Nat,d=(A2 r).1:=⟨_,rfl⟩;obtain ⟨p,hp⟩:∃p:Int,p=(A2 r).2:=⟨_,rfl⟩;have hsh:∀wz,Pows wz->Calls Tryz.prog 149 #[.int .u64 (X:Int),.int .i64 e3] wz fun x w' => x=.returned (.tuple #[.int .u64 (d:Int),.int .i64 p])/\Below wz.heap.size wz w' := fun wz hz=>by
       have:=shortW_any hr0 hr hz;rw [<-hX,<-hS,<-hK.out,<-hd,<-hp,show (K:Int) - 1074 - (S:Int)=e3 by omega] at this;exact this
     replace hsh:=Hd hsh;replace hd:=Hd hd;replace hp:=Hd hp;replace hS:=Hd hS;replace hX:=Hd hX;replace hXm:=Hd hXm;replace hl64:=Hd hl64;clear f2;go_wp2_with fail
     refine (hl64.out _).mono ?_;rintro e w' ⟨rfl,rfl⟩;go_wp2_with fail
     generalize hw2:w1.alloc _=w2;have hb12:Below w1.heap.size w1 w2:=by rw [<-hw2];exact (Below.refl _ _).alloc (Nat.le_refl _) _
     have hbuf:∀j,j<32->w2.cell? ⟨w1.heap.size,j,none⟩=some (.int .u8 0)/\w2.frozen? ⟨w1.heap.size,j,none⟩=false:=fun j hj=>by
       rw [<-hw2];refine ⟨?_,World.frozen?_alloc_at _ _ _ _ rfl⟩;rw [World.cell?_alloc_new];have key:∀j:Fin 32,(Array.replicate 32 (Value.int .u8 0))[j.val]?=some (Value.int .u8 0):=fun j=>by simp
       exact key ⟨j,hj⟩
     have hsz2:w2.heap.size=w1.heap.size+1:=by rw [<-hw2];simp
     have hP2:Pows w2:=(hF.out.pows.below hb01.out hF.out.pows.lt).below hb12 (Nat.lt_of_lt_of_le hF.out.pows.lt hB1);replace hbuf:=Hd hbuf;replace hw2:=Hd hw2;replace hb12:=Hd hb12;refine (hsh.out _ hP2).mono ?_;rintro e w3 ⟨rfl,hb23⟩;obtain ⟨d1,d2,p1,p2⟩:=Dj hr0 hr;rw [<-hd.out] at d1 d2;rw [<-hp.out] at p1 p2;have hbuf3:∀j,j<32->w3.cell? ⟨w1.heap.size,j,none⟩=some (.int .u8 0)/\w3.frozen? ⟨w1.heap.size,j,none⟩=false:=fun j hj=>by
       have hlt:w1.heap.size<w2.heap.size:=by omega
       exact ⟨(hb23.cell (p:=⟨w1.heap.size,j,none⟩) hlt).trans (hbuf.out j hj).1,(hb23.frozen (p:=⟨w1.heap.size,j,none⟩) hlt).trans (hbuf.out j hj).2⟩
     have hb13:Below w1.heap.size w1 w3:=hb12.out.trans (hb23.mono (by omega));have hsz3:w1.heap.size<w3.heap.size:=by have:=hb23.size;omega
     have hb03:Below w.heap.size w w3:=hb01.out.trans (hb13.mono hB1);have hT3 : Lib.TabIs Tryz.prog w3.drew "internal/strconv.uint64pow10" .u64 Lib.pow10Tab := Go.Joins.tab_stays C8 hF.out.tens hb03.drew (Nat.le_refl _);have hnd:=Tryz.internal_strconv_numDigits d d1 (by omega) w3.drew hT3;obtain ⟨N,hN⟩:∃N,N=Lib.nDigits d:=⟨_,rfl⟩;rw [<-hN] at hnd;have hset:=@setDigits_any w3.drew w1.heap.size d p d1 (by omega) (by omega) (by omega) hbuf3;rw [<-hN] at hset;replace hnd:=Hd hnd;replace hset:=Hd hset;replace hbuf3:=Hd hbuf3;replace hb13:=Hd hb13;replace hb23:=Hd hb23;replace hT3:=Hd hT3;replace hN:=Hd hN;go_upto_region 38 with fail
     go_region_with (first | (go_at_call 126;refine hnd.out.mono ?_;rintro e w' ⟨rfl,rfl⟩) | (go_at_call 143;refine hset.out.mono ?_;rintro e w' ⟨j,rfl,hz,hcs,hbb⟩))
     have hz2:=stripZ_nz hz;have hjl:j<=N:=by have:=hz.le;rw [Lib.decDigits_length,<-hN.out] at this;exact this
     have hN18:N<=20:=by rw [hN.out];exact Lib.nDigits_le20 d (by omega)
     have hj1:1<=j:=by
       rcases Nat.eq_zero_or_pos j with h9 | h9
       · subst h9
         have:=stripZ_nil (List.length_eq_zero_iff.1 hz2.2);rw [Ec] at this;omega
       · exact h9
     obtain ⟨pr,rfl⟩:∃pr,j=pr+1:=⟨j - 1,by omega⟩;obtain ⟨dp,hdp⟩:∃dp:Int,(N:Int)+p=dp:=⟨_,rfl⟩;have hpr:¬(pr:Int)<0:=by omega
     have hpr2:((pr+1:Nat):Int) - 1=(pr:Int):=by omega
     have hD:digL r=(Lib.decDigits d).take (pr+1):=by
       unfold digL;rw [if_neg (by omega),<-hd.out];exact hz2.1
     have hPt:Bh r=dp:=by
       unfold Bh;rw [if_neg (by omega),<-hd.out,<-hp.out,<-hN.out];exact hdp
     obtain ⟨D,hDe⟩:∃D:ByteArray,D=⟨((Lib.decDigits d).take (pr+1)).toArray⟩:=⟨_,rfl⟩;have hDl:D.data.toList=digL r:=by rw [hDe,hD]
     have hDn:D.size=pr+1:=by
       rw [hDe];show ((Lib.decDigits d).take (pr+1)).toArray.size=pr+1;rw [List.size_toArray,List.length_take,Lib.decDigits_length,<-hN.out];omega
     have hDc:∀i (h:i<D.size),w'.cell? ⟨w1.heap.size,i,none⟩=some (.int .u8 ((D.data[i]'h).toNat:Int)):=fun i h=>by
       have hi:i<(Lib.decDigits d).length:=by rw [Lib.decDigits_length,<-hN.out];omega
       rw [hcs i hi];subst hDe;show some (encB _)=some (Value.int .u8 (((((Lib.decDigits d).take (pr+1)).toArray[i]'h:UInt8).toNat:Nat):Int));simp [encB]
     have hb4:Below w1.heap.size w1 w' := hb13.out.drew.trans hbb;have hR4:RowK B w1.heap.size w' v s:=⟨hR1.below hb4 (Nat.le_refl _),fun e=>by have:=(A1 hR1.own _ e).2;omega,by have:=hbb.size;have e9:w3.drew.heap.size=w3.heap.size:=rfl;omega⟩;have hb04:Below w.heap.size w w' := hb01.out.trans (hb4.mono hB1);clear hz hcs hbb hz2 hDe;replace hDc:=Hd hDc;replace hDl:=Hd hDl;replace hD:=Hd hD;replace hPt:=Hd hPt;replace hR4:=Hd hR4;replace hb04:=Hd hb04;replace hb4:=Hd hb4;have hDni:(D.size:Int)=(pr:Int)+1:=by omega
     replace hDn:=Hd hDn;replace hDni:=Hd hDni;obtain ⟨x,hx⟩:∃x:Int,(pr:Int)+1 - dp=x:=⟨_,rfl⟩;have hx0:-1000<=x/\x<=1000:=by omega
     by_cases hxn:0<x
     · have hmx:max x 0=x:=by omega
       have hfe:=fmtF_any (L:=32) (sl:=.slice (some ⟨w1.heap.size,0,none⟩) 32 32) (neg:=nb) (sh:=true) (dp:=dp) (prec:=x) hR4.out hs (by have:=hDn.out;omega) (by omega) (by omega) (fun _=>by have:=hDni.out;omega) (fun h=>absurd hxn (by omega)) (by omega) (by omega) (fun _=>by have:=hDn.out;omega) (by have:=hDn.out;omega) (by decide) (Nat.le_trans hB hb04.out.size) (fun _=>rfl) hDc.out;rw [hDni.out] at hfe;replace hfe:=Hd hfe;go_wp2_with fail
       refine hfe.out.mono ?_;rintro e w5 ⟨v', t,rfl,ht,hQ,hb⟩;replace hQ:=Hd hQ;rw [hDl.out,hPt.out.symm] at ht;replace ht:=Hd ht;have hb05:=(hb04.out.mono hB).trans hb;go_wp2_with fail
       go_ret;refine ⟨v', t,rfl,?_,hQ.out,hb05⟩;rw [ht.out,hnb.out]
     · have hfe:=fmtF_any (L:=32) (sl:=.slice (some ⟨w1.heap.size,0,none⟩) 32 32) (neg:=nb) (sh:=true) (dp:=dp) (prec:=0) hR4.out hs (by have:=hDn.out;omega) (by omega) (by omega) (fun h=>absurd h (by decide)) (fun h=>by have:=hDni.out;omega) (by omega) (by omega) (fun _=>by have:=hDn.out;omega) (by have:=hDn.out;omega) (by decide) (Nat.le_trans hB hb04.out.size) (fun _=>rfl) hDc.out
       rw [hDni.out] at hfe;replace hfe:=Hd hfe;have hmx:max x 0=0:=by omega
       go_wp2_with fail
       refine hfe.out.mono ?_;rintro e w5 ⟨v', t,rfl,ht,hQ,hb⟩;replace hQ:=Hd hQ;rw [hDl.out,hPt.out.symm] at ht;replace ht:=Hd ht;have hb05:=(hb04.out.mono hB).trans hb;go_wp2_with fail
       go_ret;refine ⟨v', t,rfl,?_,hQ.out,hb05⟩;rw [ht.out,hnb.out]
end Go.Proofs.YtagkgfniihiinaaGreatDoor
