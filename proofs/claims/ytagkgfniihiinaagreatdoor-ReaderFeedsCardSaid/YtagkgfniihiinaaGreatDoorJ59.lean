/- internal/strconv.parseFloat64: its walk. -/
import Derived.Test.YtagkgfniihiinaaGreatDoorJ85
import Derived.Test.YtagkgfniihiinaaGreatDoorJ45
import Derived.Test.YtagkgfniihiinaaGreatDoorJ17
set_option linter.all false
namespace Go.Proofs.YtagkgfniihiinaaGreatDoor
open Go.RowKit
theorem unmin_any (w:World):Calls Tryz.prog 179 #[.int .u64 9007199254740992] w fun e w' => e=.returned (.int .u64 36028797018963966)/\w' = w:=by
 go_enter Tryz.func179,Tryz.ntmps179
 go_wp2;go_ret;exact ⟨rfl,rfl⟩
theorem bool2i_any (b:Bool) (w:World):Calls Tryz.prog 160 #[.bool b] w fun e w' => e=.returned (.int .i64 (b.toNat:Int))/\w' = w:=by
 cases b
 · go_enter Tryz.func160,Tryz.ntmps160
   go_wp2;go_ret;exact ⟨rfl,rfl⟩
 · go_enter Tryz.func160,Tryz.ntmps160
   go_wp2;go_ret;exact ⟨rfl,rfl⟩
theorem stick_top {q:Nat} (b:Bool) (h:q<=72057594037927919):B7 q b<=72057594037927919:=by cases b<;>simp [B7]<;>omega
theorem parse_u {d s:Nat} {p:Int} (hd:0<d) (hd2:d<18446744073709551616) (h0:-348<=p) (h1:p<=347) (hs:8<=s) :
   C2 18446744073709551616 (d * 2 ^ (64 - Ap d)) (hiT p) (loT p) s<=72057594037927919:=by
 obtain ⟨n0,n1⟩:=norm64 hd hd2
 obtain ⟨b1,_,_⟩:=y_bounds (s:=s) h0 h1 n0 n1 hs
 rw [uscale_p h0 h1 hs n0 n1]
 have hE:0<tD p * (18446744073709551616 * 18446744073709551616) * 2 ^ s:=Nat.mul_pos (Nat.mul_pos (E3 p) (by decide)) (Nat.two_pow_pos s)
 have hT8:1<=2 ^ (s - 8):=Nat.two_pow_pos _
 generalize d * 2 ^ (64 - Ap d) * tN p=y at *
 generalize tD p * (18446744073709551616 * 18446744073709551616) * 2 ^ s=E at *
 have hy:y<72057594037927920 * E:=Nat.lt_of_le_of_lt (Nat.le_mul_of_pos_right _ hT8) b1
 unfold unr
 refine stick_top _ ?_
 have:y / E<72057594037927920:=(Nat.div_lt_iff_lt_mul hE).2 hy
 omega
theorem hi_one {d:Nat} {p:Int} (hd:0<d) (hd2:d<18446744073709551616) (h0:-348<=p) (h1:p<=347):1<=d * 2 ^ (64 - Ap d) * hiT p / 18446744073709551616:=by
 obtain ⟨n0,n1⟩:=norm64 hd hd2;have:=(hi_lt h0 h1).1;have:9223372036854775808 * 9223372036854775808<=d * 2 ^ (64 - Ap d) * hiT p:=Nat.mul_le_mul n0 this;omega
theorem stick_or (q u:Nat):q ||| (u % 2)=B7 q (decide (u % 2=1)):=by
 have h:u % 2=(decide (u % 2=1)).toNat:=by
   rcases Nat.mod_two_eq_zero_or_one u with h | h<;>simp [h]
 conv=>lhs;rw [h]
 exact or_stick _ _
theorem stick_self (u:Nat):B7 u (decide (u % 2=1))=u:=by
 unfold B7;rcases Nat.mod_two_eq_zero_or_one u with h | h
 · simp [h]
 · simp [h];omega
set_option maxRecDepth 100000 in
set_option maxHeartbeats 6400000 in
theorem Fg {d:Nat} {p:Int} {sb:Bool} (hd:0<d) (hd2:d<18446744073709551616) (h0:-345<=p) (h1:p<=310) {w:World} (hP:Pows w) :
   Calls Tryz.prog 213 #[.int .u64 (d:Int),.int .i64 p,.int .u64 ((sgB sb:Nat):Int)] w fun e w' => e=.returned (.tuple #[.float .f64 (sgB sb+Bt d p),Bc (Bt d p)])/\Below w.heap.size w w' := by
 obtain ⟨n0,n1⟩:=norm64 hd hd2
 have hl:=len64_le hd2
 obtain ⟨_,_,hl1⟩:=F6 hd
 have hs8:8<=parS d p:=by unfold parS parE;omega
 have hke:parE d p<=1074:=by unfold parE;omega
 have hE0:parE d p=min 1074 (53 - Ap d - lp10 p):=rfl
 have hS0:parS d p=-(parE d p - (64 - Ap d)+lp10 p+3):=rfl
 have hlpb:-1200<=lp10 p/\lp10 p<=1200:=by unfold lp10;omega
 obtain ⟨s,hs⟩:∃s:Nat,parS d p=s:=⟨(parS d p).toNat,by omega⟩
 obtain ⟨k,hk⟩:∃k:Nat,parE d p=1074 - k:=⟨(1074 - parE d p).toNat,by omega⟩
 have hu9:=parse_u (d:=d) (s:=s) hd hd2 (p:=p) (by omega) (by omega) (by omega)
 have hh1:=hi_one (d:=d) (p:=p) hd hd2 (by omega) (by omega)
 have hhl:=(hi_lt (p:=p) (by omega) (by omega)).2
 have hll:=lo_lt p
 obtain ⟨u,hu⟩:∃u,u=C2 18446744073709551616 (d * 2 ^ (64 - Ap d)) (hiT p) (loT p) s:=⟨_,rfl⟩
 have hN:Bt d p=if 64<=s then 0 else if 36028797018963966<=u then Ck (rndU (B7 (u / 2) (decide (u % 2=1)))) (k+1) else Ck (rndU u) k:=by
   unfold Bt;rw [hs,hk,Int.toNat_natCast,<-hu,show (1075 - (1074 - (k:Int))).toNat=k+1 by omega,show (1074 - (1074 - (k:Int))).toNat=k by omega];by_cases h:64<=s
   · rw [if_pos (by omega),if_pos h]
   · rw [if_neg (by omega),if_neg h]
 rw [<-hu] at hu9
 obtain ⟨B,hB⟩:∃B,B=Ap d:=⟨_,rfl⟩
 obtain ⟨X,hX⟩:∃X,X=d * 2 ^ (64 - Ap d):=⟨_,rfl⟩
 obtain ⟨l,hle⟩:∃l,l=lp10 p:=⟨_,rfl⟩
 obtain ⟨R,hR⟩:∃R,R=Bt d p:=⟨_,rfl⟩
 rw [<-hX] at hh1 hu n0 n1
 rw [<-hB] at hl hl1 hE0 hS0 hX
 rw [<-hle] at hE0 hS0 hlpb
 rw [hk] at hE0 hS0 hke
 rw [hs] at hs8 hS0
 rw [<-hR] at hN ⊢
 have hk9:k<=3000:=by omega
 have hs9:s<=6000:=by omega
 have c1:∀w,Calls Tryz.prog 141 #[.int .u64 (d:Int)] w fun e w' => e=.returned (.int .i64 (B:Int))/\w' = w:=fun w=>by
   have:=Tryz.bits_Len64 (d:Int) w (by omega) (by omega);rwa [Int.toNat_natCast,bitLen_eq hd2,<-hB] at this
 have c2:=fun w=>log2P_any p (by omega) (by omega) w
 rw [<-hle] at c2
 obtain ⟨e1,he1⟩:∃e1:Int,min 1074 (53 - (B:Int) - l)=e1:=⟨_,rfl⟩
 have he1k:e1=1074 - (k:Int):=by omega
 obtain ⟨b6,hb6⟩:∃b6:Nat,(64:Int) - (B:Int)=(b6:Int):=⟨64 - B,by omega⟩
 have hb6n:64 - B=b6:=by omega
 rw [hb6n] at hX
 obtain ⟨e2,he2⟩:∃e2:Int,e1 - (b6:Int)=e2:=⟨_,rfl⟩
 have hsv:-(e2+l+3)=(s:Int):=by omega
 have hXi:(d:Int) * 2 ^ b6=(X:Int):=by rw [hX];simp
 have hb69:b6<=63:=by omega
 have he19:-3000<=e1/\e1<=1074:=by omega
 have he29:-3000<=e2/\e2<=1074:=by omega
 obtain ⟨w1,hw1⟩:∃w1,w1=w.alloc (.cells #[.int .u64 0,.int .u64 0,.int .i64 0] 234):=⟨_,rfl⟩
 have hb1:Below w.heap.size w w1:=by rw [hw1];exact (Below.refl _ _).alloc (Nat.le_refl _) _
 have hP1:Pows w1:=hP.below hb1 hP.lt
 have hblk:Blk w1 w.heap.size:=by rw [hw1];exact Blk.new _ _ _
 have hc0:w1.cell? ⟨w.heap.size,0,none⟩=some (.int .u64 0):=by rw [hw1,World.cell?_alloc_new];rfl
 have hc1:w1.cell? ⟨w.heap.size,1,none⟩=some (.int .u64 0):=by rw [hw1,World.cell?_alloc_new];rfl
 have hc2:w1.cell? ⟨w.heap.size,2,none⟩=some (.int .i64 0):=by rw [hw1,World.cell?_alloc_new];rfl
 have hbg:w.heap.size≠8:=by have:=hP.lt;omega
 have hpre:=prescale_any (e:=e2) (p:=p) (l:=l) hblk hc0 hc1 hc2 hP1 hbg (by omega) (by omega) (by omega) (by omega) (by omega) (by omega)
 rw [hsv] at hpre
 obtain ⟨w2,hw2⟩:∃w2,w2=((w1.setCell ⟨w.heap.size,0,none⟩ (.int .u64 (hiT p:Int))).setCell ⟨w.heap.size,1,none⟩ (.int .u64 (loT p:Int))).setCell ⟨w.heap.size,2,none⟩ (.int .i64 (s:Int)):=⟨_,rfl⟩
 rw [<-hw2] at hpre
 have hb2:Below w.heap.size w w2:=by
   rw [hw2];refine hb1.trans ?_;exact ((((Fr.refl (fun k=>k=w.heap.size) w1).setCell (fun _=>rfl) _).setCell (fun _=>rfl) _).setCell (fun _=>rfl) _).below hb1.size (fun i hi e=>by omega)
 have d0:w2.cell? ⟨w.heap.size,0,none⟩=some (.int .u64 (hiT p:Int)):=by rw [hw2,Ad (by simp),Ad (by simp)];exact Am hc0
 have d1:w2.cell? ⟨w.heap.size,1,none⟩=some (.int .u64 (loT p:Int)):=by rw [hw2,Ad (by simp)];exact Am (by rw [Ad (by simp)];exact hc1)
 have d2:w2.cell? ⟨w.heap.size,2,none⟩=some (.int .i64 (s:Int)):=by rw [hw2];exact Am (by rw [Ad (by simp),Ad (by simp)];exact hc2)
 have f1:=fun w=>B8 (sgB sb) w
 have o0:bits .or .u64 ((sgB sb:Nat):Int) 0=((sgB sb:Nat):Int):=by
   have h1:=Bm (x:=sgB sb) (y:=0) (by unfold sgB;split<;>omega) (by omega);rw [Nat.or_zero] at h1;exact h1
 obtain ⟨SG,hSG⟩:∃SG,SG=sgB sb:=⟨_,rfl⟩
 replace c1:=Hd c1
 replace c2:=Hd c2
 replace hpre:=Hd hpre
 replace hw2:=Hd hw2
 replace hw1e:=Hd hw1
 replace hb2:=Hd hb2
 replace hX:=Hd hX
 replace hu:=Hd hu
 replace hN:=Hd hN
 replace hR:=Hd hR
 replace hB:=Hd hB
 replace hle:=Hd hle
 replace he1k:=Hd he1k
 replace hS0:=Hd hS0
 replace hE0:=Hd hE0
 replace hh1:=Hd hh1
 clear hP hP1 hblk hc0 hc1 hc2 hb1 hs hk hsv
 by_cases h64:64<=s
 · have hR0:R=0:=by rw [hN.out,if_pos h64]
   have hr0:Bc 0=.nilIface:=if_neg (by decide);rw [hR0,hr0,Nat.add_zero,<-hSG];rw [<-hSG] at f1 o0;have h64i:(64:Int)<=(s:Int):=by omega
   replace hSG:=Hd hSG;clear hR0 hr0
   go_enter Tryz.func213,Tryz.ntmps213
   go_wp2_with fail
   refine (c1.out _).mono ?_;rintro e w' ⟨rfl,hww⟩;obtain rfl:=hww.symm;clear hww;go_wp2_with fail
   refine (c2.out _).mono ?_;rintro e w' ⟨rfl,hww⟩;obtain rfl:=hww.symm;clear hww;go_wp2_with fail
   rw [<-hw1e.out];refine hpre.out.mono ?_;rintro e w' ⟨rfl,hww⟩;obtain rfl:=hww.symm;clear hww;go_wp2
   go_ret2
   exact ⟨rfl,hb2.out⟩
 · have h64i:¬(64:Int)<=(s:Int):=by omega
   have hus:=uscaleW_any (w:=w2) (b:=w.heap.size) (x:=X) (hi:=hiT p) (lo:=loT p) (s:=s) n1 hhl hll (by omega) hh1.out d0 d1 d2;rw [<-hu.out] at hus;replace hus:=Hd hus;have hNN:=hN.out;rw [if_neg h64] at hNN;have hu64:(u:Int)<=72057594037927919:=by omega
   clear n0 hhl hll;by_cases hbig:36028797018963966<=u
   · rw [if_pos hbig] at hNN
     have hbi:(36028797018963966:Int)<=(u:Int):=by omega
     have cb:=bool2i_any true;obtain ⟨h,hh⟩:∃h,h=u / 2:=⟨_,rfl⟩;have hdv:(u:Int) / 2=(h:Int):=by omega
     obtain ⟨b,hb⟩:∃b,b=u % 2:=⟨_,rfl⟩;have hmd:(u:Int) % 2=(b:Int):=by omega
     have hand:bits .and .u64 (u:Int) 1=(b:Int):=by
       have:=Ce (x:=u) (y:=1) (by omega) (by omega);rw [and_1,<-hb] at this;exact this
     obtain ⟨v,hv⟩:∃v,v=B7 (u / 2) (decide (u % 2=1)):=⟨_,rfl⟩;have hor:bits .or .u64 (h:Int) (b:Int)=(v:Int):=by
       have:=Bm (x:=h) (y:=b) (by omega) (by omega);rw [hh,hb,stick_or,<-hv] at this;rw [hh,hb];exact this
     have hv9:v<=36028797018963960:=by rw [hv];unfold B7;split<;>omega
     obtain ⟨m,hm⟩:∃m,m=rndU v:=⟨_,rfl⟩;have hm9:m<9007199254740992:=by rw [hm];unfold rndU;omega
     rw [<-hv,<-hm] at hNN;have hRR:=hNN;have cr:=fun w=>round_is v m (by omega) hm.symm w;obtain ⟨e3,he3⟩:∃e3:Int,e1 - 1=e3:=⟨_,rfl⟩;have hkk:(((k+1:Nat):Int) - 1074)=-e3:=by have:=he1k.out;omega
     have he39:-3001<=e3/\e3<=1074:=by omega
     replace cb:=Hd cb;replace cr:=Hd cr;replace hh:=Hd hh;replace hb:=Hd hb;replace hv:=Hd hv;replace hm:=Hd hm;clear hNN hbig;have hpk:=fun w=>pack64_any (m:=m) (k:=(k+1)) (sb:=sb) hm9 (by omega) w;have hRe:R=Ck m (k+1):=hRR;rw [<-hRe,<-hSG,hkk] at hpk;replace hkk:=Hd hkk;have hor2:bits .or .u64 (SG:Int) ((m:Nat):Int)=((SG+m:Nat):Int):=by
       have h1:=Bm (x:=SG) (y:=m) (by rw [hSG];unfold sgB;split<;>omega) (by omega);rw [hSG,sgB_or sb (by omega),<-hSG] at h1;rw [hSG] at h1 ⊢;exact h1
     obtain ⟨Z,hZ⟩:∃Z,Z=SG+m:=⟨_,rfl⟩;rw [<-hZ] at hpk hor2;obtain ⟨G,hG⟩:∃G,G=SG+R:=⟨_,rfl⟩;obtain ⟨ER,hER⟩:∃ER,ER=Bc R:=⟨_,rfl⟩;rw [<-hG,<-hER] at hpk;rw [<-hSG,<-hG,<-hER];replace hpk:=Hd hpk;replace hSG:=Hd hSG;replace hZ:=Hd hZ;replace hG:=Hd hG;replace hER:=Hd hER;replace hRe:=Hd hRe;clear hRR hu9 hN f1 o0
     go_enter Tryz.func213,Tryz.ntmps213
     go_wp2_with fail
     refine (c1.out _).mono ?_;rintro e w' ⟨rfl,hww⟩;obtain rfl:=hww.symm;clear hww;go_wp2_with fail
     refine (c2.out _).mono ?_;rintro e w' ⟨rfl,hww⟩;obtain rfl:=hww.symm;clear hww;go_wp2_with fail
     rw [<-hw1e.out];refine hpre.out.mono ?_;rintro e w' ⟨rfl,hww⟩;obtain rfl:=hww.symm;clear hww;go_wp2_with fail
     refine hus.out.mono ?_;rintro e w3 ⟨rfl,hb3⟩;have hb03:=hb2.out.trans (hb3.mono hb2.out.size);replace hb03:=Hd hb03;clear hb3;go_wp2_with fail
     refine (unmin_any _).mono ?_;rintro e w' ⟨rfl,hww⟩;obtain rfl:=hww.symm;clear hww;go_wp2_with fail
     refine (cb.out _).mono ?_;rintro e w' ⟨rfl,hww⟩;obtain rfl:=hww.symm;clear hww;go_wp2_with fail
     refine (cr.out _).mono ?_;rintro e w' ⟨rfl,hww⟩;obtain rfl:=hww.symm;clear hww;go_wp2_with fail
     refine (hpk.out _).mono ?_;rintro e w' ⟨rfl,hww⟩;obtain rfl:=hww.symm;clear hww;go_wp2
     go_ret2
     exact ⟨rfl,hb03.out⟩
   · rw [if_neg hbig] at hNN
     have hbi:decide ((36028797018963966:Int)<=(u:Int))=false:=decide_eq_false (by omega);have cb:=bool2i_any false;obtain ⟨b,hb⟩:∃b,b=u % 2:=⟨_,rfl⟩;have hmd:(u:Int) % 2=(b:Int):=by omega
     have hand:bits .and .u64 (u:Int) 1=(b:Int):=by
       have:=Ce (x:=u) (y:=1) (by omega) (by omega);rw [and_1,<-hb] at this;exact this
     have hor:bits .or .u64 (u:Int) (b:Int)=(u:Int):=by
       have:=Bm (x:=u) (y:=b) (by omega) (by omega);rw [hb,stick_or,stick_self] at this;rw [hb];exact this
     obtain ⟨m,hm⟩:∃m,m=rndU u:=⟨_,rfl⟩;have hm9:m<9007199254740992:=by rw [hm];unfold rndU;omega
     rw [<-hm] at hNN;have hRR:=hNN;have cr:=fun w=>round_is u m (by omega) hm.symm w;have hkk:((k:Int) - 1074)=-e1:=by have:=he1k.out;omega
     replace cb:=Hd cb;replace cr:=Hd cr;replace hb:=Hd hb;replace hm:=Hd hm;clear hNN hbig;have hpk:=fun w=>pack64_any (m:=m) (k:=k) (sb:=sb) hm9 (by omega) w;have hRe:R=Ck m k:=hRR;rw [<-hRe,<-hSG,hkk] at hpk;replace hkk:=Hd hkk;have hor2:bits .or .u64 (SG:Int) ((m:Nat):Int)=((SG+m:Nat):Int):=by
       have h1:=Bm (x:=SG) (y:=m) (by rw [hSG];unfold sgB;split<;>omega) (by omega);rw [hSG,sgB_or sb (by omega),<-hSG] at h1;rw [hSG] at h1 ⊢;exact h1
     obtain ⟨Z,hZ⟩:∃Z,Z=SG+m:=⟨_,rfl⟩;rw [<-hZ] at hpk hor2;obtain ⟨G,hG⟩:∃G,G=SG+R:=⟨_,rfl⟩;obtain ⟨ER,hER⟩:∃ER,ER=Bc R:=⟨_,rfl⟩;rw [<-hG,<-hER] at hpk;rw [<-hSG,<-hG,<-hER];replace hpk:=Hd hpk;replace hSG:=Hd hSG;replace hZ:=Hd hZ;replace hG:=Hd hG;replace hER:=Hd hER;replace hRe:=Hd hRe;clear hRR hu9 hN f1 o0
     go_enter Tryz.func213,Tryz.ntmps213
     go_wp2_with fail
     refine (c1.out _).mono ?_;rintro e w' ⟨rfl,hww⟩;obtain rfl:=hww.symm;clear hww;go_wp2_with fail
     refine (c2.out _).mono ?_;rintro e w' ⟨rfl,hww⟩;obtain rfl:=hww.symm;clear hww;go_wp2_with fail
     rw [<-hw1e.out];refine hpre.out.mono ?_;rintro e w' ⟨rfl,hww⟩;obtain rfl:=hww.symm;clear hww;go_wp2_with fail
     refine hus.out.mono ?_;rintro e w3 ⟨rfl,hb3⟩;have hb03:=hb2.out.trans (hb3.mono hb2.out.size);replace hb03:=Hd hb03;clear hb3;go_wp2_with fail
     refine (unmin_any _).mono ?_;rintro e w' ⟨rfl,hww⟩;obtain rfl:=hww.symm;clear hww;go_wp2_with fail
     refine (cb.out _).mono ?_;rintro e w' ⟨rfl,hww⟩;obtain rfl:=hww.symm;clear hww;go_wp2_with fail
     refine (cr.out _).mono ?_;rintro e w' ⟨rfl,hww⟩;obtain rfl:=hww.symm;clear hww;go_wp2_with fail
     refine (hpk.out _).mono ?_;rintro e w' ⟨rfl,hww⟩;obtain rfl:=hww.symm;clear hww;go_wp2
     go_ret2
     exact ⟨rfl,hb03.out⟩
end Go.Proofs.YtagkgfniihiinaaGreatDoor
namespace Go.Proofs.YtagkgfniihiinaaGreatDoor
open Ieee
inductive ExOk (d:Nat) (neg:Bool):Int->Nat->Prop
 | zero:ExOk d neg 0 (fltN neg d)
 | neg {i z r:Nat}:1<=i->f10L[i]?=some z->floatBits .quo .f64 (fltN neg d) z=some r->ExOk d neg (-(i:Int)) r
 | pos {i z r:Nat}:1<=i->f10L[i]?=some z->floatBits .mul .f64 (fltN neg d) z=some r->ExOk d neg (i:Int) r
 | far {i z f r:Nat}:1<=i->f10L[i]?=some z->floatBits .mul .f64 (fltN neg d) z=some f->floatBits .mul .f64 f 4936209963552724370=some r ->
     (FloatKind.f64.format.order f 4831355200913801216 == some .gt)=false->(FloatKind.f64.format.order f 14054727237768577024 == some .lt)=false->ExOk d neg (22+(i:Int)) r
theorem fltN_is {neg:Bool} {d:Nat} (h0:0<d) (hd:d<4503599627370496):∃R,fltN neg d=(if neg then 9223372036854775808 else 0)+R/\rv R=d * 2 ^ 1074/\R<9218868437227405312/\0<R:=by
 obtain ⟨R,h1,h2,h3,h4⟩:=flt_rung h0 (by omega);refine ⟨R,?_,h2,h3,h4⟩;unfold fltN;rw [h1];cases neg
 · simp
 · show R ^^^ 9223372036854775808=9223372036854775808+R
   rw [xor63 (by omega)];unfold flipN;rw [if_pos (by omega)];omega
theorem Fs:∀z∈f10L,z<9218868437227405312/\0<z:=by decide +kernel
theorem f10_vals:allN 23 (fun i=>match f10L[i]? with | some z=>decide (rv z=10 ^ i * 2 ^ 1074) | none=>true)=true:=by decide +kernel
theorem f10_rv {i z:Nat} (h:f10L[i]?=some z):rv z=10 ^ i * 2 ^ 1074:=by
 have hi:i<23:=(List.getElem?_eq_some_iff.1 h).1;have h1:=allN_at f10_vals i hi;simp only [h] at h1;exact of_decide_eq_true h1
theorem pw2 (d T c e:Nat):d * 2 ^ c * 2 ^ e * T=d * 10 ^ 0 * 2 ^ e * (T * 2 ^ c):=by
 rw [Nat.pow_zero,Nat.mul_one];simp only [Nat.mul_assoc,Nat.mul_left_comm,Nat.mul_comm]
theorem pw3 (d T c e f:Nat) (h:c+c=e+f):d * 2 ^ c * (T * 2 ^ c) * 10 ^ 0=d * T * 2 ^ e * 2 ^ f:=by
 rw [Nat.pow_zero,Nat.mul_one,Nat.mul_assoc (d * T),<-Nat.pow_add,<-h,Nat.pow_add];simp only [Nat.mul_assoc,Nat.mul_left_comm,Nat.mul_comm]
theorem mid15:mid 4831355200913801216<2 * (9007199254740992 * 2 ^ 1074):=by decide +kernel
theorem under {X q:Nat} (h:q<=4831355200913801216) (hi:InI q (2 * (X * 2 ^ 1074)) 1):X<9007199254740992:=by
 have h1:=hi.high;have h2:=mid_le h;have h3:=mid15;obtain ⟨P,hP⟩:∃P,P=2 ^ 1074:=⟨_,rfl⟩;rw [<-hP] at h1 h3;rw [Nat.mul_one] at h1;have h4:2 * (X * P)<2 * (9007199254740992 * P):=by
   rcases h1 with h1 | h1
   · exact Nat.lt_of_lt_of_le h1 (Nat.le_trans h2 (Nat.le_of_lt h3))
   · rw [h1.1];exact Nat.lt_of_le_of_lt h2 h3
 exact Nat.lt_of_mul_lt_mul_right (Nat.lt_of_mul_lt_mul_left h4)
theorem near15 {neg:Bool} {q:Nat} (h1:(FloatKind.f64.format.order ((if neg then 9223372036854775808 else 0)+min q 9218868437227405312) 4831355200913801216 == some .gt)=false)
   (h2:(FloatKind.f64.format.order ((if neg then 9223372036854775808 else 0)+min q 9218868437227405312) 14054727237768577024 == some .lt)=false):q<=4831355200913801216:=by
 obtain ⟨f,hf⟩:∃f,f=(if neg then 9223372036854775808 else 0)+min q 9218868437227405312:=⟨_,rfl⟩
 rw [<-hf] at h1 h2
 have hf9:f<18446744073709551616:=by split at hf<;>omega
 have hn:nanF f=false:=by
   unfold nanF;rw [decide_eq_false_iff_not];split at hf<;>omega
 have h3:Ieee.double.order f 4831355200913801216=_:=order_sv hf9 (by decide) hn (by decide)
 have h4:Ieee.double.order f 14054727237768577024=_:=order_sv hf9 (by decide) hn (by decide)
 rcases Nat.lt_or_ge 4831355200913801216 q with hq | hq
 · exfalso
   cases neg
   · have e:compare (sv f) (sv 4831355200913801216)=.gt:=Int.compare_eq_gt.2 (by
       unfold sv;simp only [Bool.false_eq_true,if_false] at hf;rw [if_neg (by omega),if_neg (by omega)];omega)
     rw [e] at h3;have h5:(Ieee.double.order f 4831355200913801216 == some .gt)=false:=h1;rw [h3] at h5;cases h5
   · have e:compare (sv f) (sv 14054727237768577024)=.lt:=Int.compare_eq_lt.2 (by
       unfold sv;simp only [if_true] at hf;rw [if_pos (by omega),if_pos (by omega)];omega)
     rw [e] at h4;have h5:(Ieee.double.order f 14054727237768577024 == some .lt)=false:=h2;rw [h4] at h5;cases h5
 · exact hq
theorem ten_at (i:Nat):B5 (-(i:Int))=10 ^ i/\B5 (i:Int)=10 ^ 0/\(-(i:Int)).toNat=0/\((i:Nat):Int).toNat=i:=by
 refine ⟨?_,?_,by omega,by omega⟩
 · unfold B5;congr 1;omega
 · unfold B5;congr 1;omega
theorem prod_gen {d T q c a b:Nat} (hab:a=b+1) (h:InI q (d * 2 ^ a * (T * 2 ^ a)) (2 ^ b)) (hc:c=d * T):InI q (2 * (c * 2 ^ a)) 1:=by
 refine (InI.cross (Nat.two_pow_pos _) Nat.one_pos ?_).1 h;rw [hc,two_pw (d * T) a (a+1) rfl,Nat.mul_one];have:=pw3 d T a (a+1) b (by omega);rw [Nat.pow_zero,Nat.mul_one] at this;exact this
theorem prod_near {d T q c:Nat} (h:InI q (d * 2 ^ 1074 * (T * 2 ^ 1074)) (2 ^ 1073)) (hc:c=d * T):InI q (2 * (c * 2 ^ 1074)) 1:=prod_gen (a:=1074) (b:=1073) rfl h hc
theorem ex_near {d:Nat} {p:Int} {neg:Bool} {r:Nat} (h0:0<d) (hd:d<4503599627370496) (h:ExOk d neg p r) :
   ∃R,r=(if neg then 9223372036854775808 else 0)+min R 9218868437227405312/\InI R (decA d p) (B5 p):=by
 obtain ⟨R,h1,h2,h3,h4⟩:=fltN_is (neg:=neg) h0 hd
 have hb:∀p,0<B5 p:=fun p=>Nat.pow_pos (by decide)
 cases h with
 | zero=>
   refine ⟨R,by rw [h1,Nat.min_eq_left (Nat.le_of_lt h3)],?_⟩;have e:decA d 0=2 * rv R:=by
     rw [h2,two_pw d 1074 1075 rfl];unfold decA;rw [show Go.Proofs.YtagkgfniihiinaaGreatDoor.hp=1075 from rfl,show (0:Int).toNat=0 from rfl,Nat.pow_zero,Nat.mul_one]
   rw [e];exact InI.self
 | @neg i z r hi1 hz hr=>
   obtain ⟨z3,z4⟩:=Fs z (List.mem_of_getElem? hz);obtain ⟨q,h5,h6⟩:=quo_rung (n1:=neg) h3 h4 z3 z4;rw [h1] at hr;have h7:some r=some _:=hr.symm.trans h5;have hz9:0<rv z:=by rw [f10_rv hz];exact mul_tp 1074 (Nat.pow_pos (by decide))
   refine ⟨q,Option.some.inj h7,(InI.cross hz9 (hb _) ?_).1 h6⟩;unfold decA;rw [h2,f10_rv hz,(ten_at i).1,(ten_at i).2.2.1];rw [show Go.Proofs.YtagkgfniihiinaaGreatDoor.hp=1075 from rfl];exact pw2 d (10 ^ i) 1074 1075
 | @pos i z r hi1 hz hr=>
   obtain ⟨z3,z4⟩:=Fs z (List.mem_of_getElem? hz);obtain ⟨q,h5,h6⟩:=F9 (n1:=neg) h3 h4 z3 z4;rw [h1] at hr;have h7:some r=some _:=hr.symm.trans h5;refine ⟨q,Option.some.inj h7,(InI.cross (Nat.two_pow_pos _) (hb _) ?_).1 h6⟩;unfold decA;rw [h2,f10_rv hz,(ten_at i).2.1,(ten_at i).2.2.2];rw [show Go.Proofs.YtagkgfniihiinaaGreatDoor.hp=1075 from rfl];exact pw3 d (10 ^ i) 1074 1075 1073 rfl
 | @far i z f r hi1 hz hf hr ho1 ho2=>
   obtain ⟨z3,z4⟩:=Fs z (List.mem_of_getElem? hz);obtain ⟨q,h5,h6⟩:=F9 (n1:=neg) h3 h4 z3 z4;rw [h1] at hf;have h7:some f=some _:=hf.symm.trans h5;have h8:=Option.some.inj h7;rw [h8] at ho1 ho2;have h9:=near15 ho1 ho2;rw [h2,f10_rv hz] at h6;have h10:=prod_near h6 rfl;have h11:=under h9 h10;obtain ⟨R2,k1,k2⟩:=rung_whole (m:=d * 10 ^ i) (Nat.mul_pos h0 (Nat.pow_pos (by decide))) h11;rw [<-k1] at h10;have k3:=h10.uniq Nat.one_pos InI.self;subst k3;have k4:0<q:=by
     rcases Nat.eq_zero_or_pos q with h | h
     · rw [h] at k1
       have:rv 0=0:=rfl;exact absurd (k1.symm.trans this) (Nat.pos_iff_ne_zero.1 (mul_tp 1074 (Nat.mul_pos h0 (Nat.pow_pos (by decide)))))
     · exact h
   rw [h8,Nat.min_eq_left (Nat.le_of_lt k2)] at hr;obtain ⟨y,j1,j2⟩:=F9 (n1:=neg) (z:=4936209963552724370) k2 k4 (by decide) (by decide);have j3:some r=some _:=hr.symm.trans j1;refine ⟨y,Option.some.inj j3,(InI.cross (Nat.two_pow_pos _) (hb _) ?_).1 j2⟩;unfold decA;have e22:(22+(i:Int))=((22+i:Nat):Int):=by omega
   rw [e22,k1,f10_rv (i:=22) (z:=4936209963552724370) rfl,(ten_at _).2.1,(ten_at _).2.2.2,Nat.add_comm 22 i,Nat.pow_add,<-Nat.mul_assoc d];rw [show Go.Proofs.YtagkgfniihiinaaGreatDoor.hp=1075 from rfl];obtain ⟨c73,h73⟩:∃c:Nat,c=1073:=⟨_,rfl⟩;obtain ⟨c74,h74⟩:∃c:Nat,c=1074:=⟨_,rfl⟩;obtain ⟨c75,h75⟩:∃c:Nat,c=1075:=⟨_,rfl⟩;rw [<-h73,<-h74,<-h75];exact pw3 (d * 10 ^ i) (10 ^ 22) c74 c75 c73 (by omega)
theorem ex_pow {d:Nat} {p:Int} {neg:Bool} {r:Nat} (h:ExOk d neg p r):p<=44:=by
 cases h with
 | zero=>decide
 | neg _ _ _=>omega
 | @pos i z r _ hz _=>have:=(List.getElem?_eq_some_iff.1 hz).1;have h2:i<23:=this;omega
 | @far i z f r _ hz _ _ _ _=>have:=(List.getElem?_eq_some_iff.1 hz).1;have h2:i<23:=this;omega
def topN:Nat:=4503599627370496 * 10 ^ 44 * 2 ^ Go.Proofs.YtagkgfniihiinaaGreatDoor.hp
theorem mid_top:topN<mid 9218868437227405311:=by decide +kernel
theorem dec_mono {d D n m:Nat} (hd:d<D) (h:n<=m) (c:Nat):d * 10 ^ n * 2 ^ c<=D * 10 ^ m * 2 ^ c:=
 Nat.mul_le_mul_right _ (Nat.mul_le_mul (Nat.le_of_lt hd) (Nat.pow_le_pow_right (by decide) h))
theorem fin_near {d R:Nat} {p:Int} (hd:d<4503599627370496) (hp:p<=44) (h:InI R (decA d p) (B5 p)):R<9218868437227405312:=by
 rcases Nat.lt_or_ge R 9218868437227405312 with hR | hR
 · exact hR
 · exfalso
   have hb:0<B5 p:=Nat.pow_pos (by decide);have hR1:9218868437227405311<=R - 1:=by clear hd;omega
   have h1:mid (R - 1) * B5 p<=decA d p:=by
     rcases h.low with h | h | h
     · omega
     · exact Nat.le_of_lt h
     · exact Nat.le_of_eq h.1
   have h2:mid 9218868437227405311<=mid (R - 1):=mid_le hR1;have h3:mid (R - 1)<=mid (R - 1) * B5 p:=Nat.le_mul_of_pos_right _ hb;have hp9:p.toNat<=44:=by omega
   have h4:decA d p<=topN:=dec_mono hd hp9 Go.Proofs.YtagkgfniihiinaaGreatDoor.hp;exact absurd (Nat.le_trans h2 (Nat.le_trans h3 (Nat.le_trans h1 h4))) (Nat.not_le.2 mid_top)
end Go.Proofs.YtagkgfniihiinaaGreatDoor
namespace Go.Proofs.YtagkgfniihiinaaGreatDoor
open Go.RowKit
def ExRes (d:Nat) (neg:Bool) (p:Int) (w:World) (e:Ending) (w' : World):Prop:=∃(f:Nat) (ok:Bool),e=.returned (.tuple #[.float .f64 f,.bool ok])/\w' = w/\(ok=true->d<4503599627370496/\ExOk d neg p f)
theorem exact_big {w:World} {d:Nat} {p:Int} {neg:Bool} (hd:4503599627370496<=d) (hd2:d<18446744073709551616) (hP:Par w) :
   Calls Tryz.prog 212 #[.int .u64 (d:Int),.int .i64 p,.bool neg] w (ExRes d neg p w):=by
 obtain ⟨b,c,h1,h2⟩:=hP.tens
 have hb:=hP.bits
 have hnr:=Fq
 obtain ⟨q,hq⟩:∃q:Nat,(d:Int) / 4503599627370496=(q:Int):=⟨d / 4503599627370496,by omega⟩
 have hq0:((q:Int) != 0)=true:=by simp;omega
 clear h1 h2 hnr
 go_enter Tryz.func212,Tryz.ntmps212
 go_wp2
 go_ret2
 exact ⟨0,false,rfl,rfl,fun h=>by cases h⟩
theorem exact_zero {w:World} {d:Nat} {neg:Bool} (hd:d<4503599627370496) (hP:Par w) :
   Calls Tryz.prog 212 #[.int .u64 (d:Int),.int .i64 0,.bool neg] w (ExRes d neg 0 w):=by
 obtain ⟨b,c,h1,h2⟩:=hP.tens
 have hb:=hP.bits
 have hnr:=Fq
 have hz:(d:Int) / 4503599627370496=0:=by omega
 obtain ⟨F,hF⟩:∃F,floatOfInt .f64 (d:Int)=F:=⟨_,rfl⟩
 obtain ⟨G,hG⟩:∃G,fltN neg d=G:=⟨_,rfl⟩
 have hres:d<4503599627370496/\ExOk d neg 0 G:=⟨hd,hG ▸ .zero⟩
 replace hres:=Hd hres
 clear h1 h2
 cases neg
 · obtain rfl:F=G:=by rw [<-hG,<-hF,fltN,if_neg (by decide)]
   clear hG
   go_enter Tryz.func212,Tryz.ntmps212
   go_wp2
   go_ret2
   exact ⟨F,true,rfl,rfl,fun _=>hres.out⟩
 · have hFG:Op.negFloat .f64 F=G:=by rw [<-hG,<-hF,fltN,if_pos rfl]
   have hnF:=hnr F;rw [hFG] at hnF;clear hG hFG hnr
   go_enter Tryz.func212,Tryz.ntmps212
   go_wp2
   go_ret2
   exact ⟨G,true,rfl,rfl,fun _=>hres.out⟩
theorem exact_else {w:World} {d:Nat} {p:Int} {neg:Bool} (hd:d<4503599627370496) (hp:37<p\/p < -22) (hp1:-100000<=p) (hp2:p<=1000000) (hP:Par w) :
   Calls Tryz.prog 212 #[.int .u64 (d:Int),.int .i64 p,.bool neg] w (ExRes d neg p w):=by
 obtain ⟨b,c,h1,h2⟩:=hP.tens
 have hb:=hP.bits
 have hnr:=Fq
 have hz:(d:Int) / 4503599627370496=0:=by omega
 have hp0:(p == 0)=false:=beq_eq_false_iff_ne.2 (by omega)
 obtain ⟨F,hF⟩:∃F,floatOfInt .f64 (d:Int)=F:=⟨_,rfl⟩
 clear h1 h2
 rcases hp with hp | hp
 · have k1:(0:Int)<p:=by omega
   have k2:¬p<=37:=by omega
   have k3:¬p<0:=by omega
   cases neg
   · go_enter Tryz.func212,Tryz.ntmps212
     go_wp2
     go_ret2
     exact ⟨F,false,rfl,rfl,fun h=>by cases h⟩
   · have hnF:=hnr F
     clear hnr
     go_enter Tryz.func212,Tryz.ntmps212
     go_wp2
     go_ret2
     exact ⟨_,false,rfl,rfl,fun h=>by cases h⟩
 · have k1:¬(0:Int)<p:=by omega
   have k2:p<0:=by omega
   have k3:¬-22<=p:=by omega
   cases neg
   · go_enter Tryz.func212,Tryz.ntmps212
     go_wp2
     go_ret2
     exact ⟨F,false,rfl,rfl,fun h=>by cases h⟩
   · have hnF:=hnr F
     clear hnr
     go_enter Tryz.func212,Tryz.ntmps212
     go_wp2
     go_ret2
     exact ⟨_,false,rfl,rfl,fun h=>by cases h⟩
theorem read_fin {n:Nat} (h:nanF n=false):(∃m p,Ieee.double.read n=.number (negF n) m p)\/Ieee.double.read n=.infinity (negF n):=by
 unfold nanF at h;have h2:=of_decide_eq_false h;rcases Nat.lt_or_ge (n % 9223372036854775808) 9218868437227405312 with h1 | h1
 · obtain ⟨m,p,h3,_⟩:=Cm h1
   exact .inl ⟨m,p,h3⟩
 · exact .inr (read_inf (by omega))
theorem mul_some {x z:Nat} (hx:nanF x=false) (hz:z % 9223372036854775808<9218868437227405312) (hz0:0<z % 9223372036854775808):∃r,floatBits .mul .f64 x z=some r:=by
 obtain ⟨m2,p2,h2,h3,h4⟩:=Cm hz;have hm2:m2≠0:=fun e=>by
   rw [e,Nat.zero_mul] at h4;have:=Fd.1 h4.symm;omega
 show ∃r,((Ieee.double.read x).product (Ieee.double.read z)).map Ieee.double.write=some r;rw [h2];rcases read_fin hx with ⟨m,p,h⟩ | h
 · rw [h];exact ⟨_,rfl⟩
 · rw [h]
   unfold Ieee.Datum.product;simp only [hm2,if_false];exact ⟨_,rfl⟩
theorem quo_some {x z:Nat} (hx:nanF x=false) (hz:z % 9223372036854775808<9218868437227405312) (hz0:0<z % 9223372036854775808):∃r,floatBits .quo .f64 x z=some r:=by
 obtain ⟨m2,p2,h2,h3,h4⟩:=Cm hz;have hm2:m2≠0:=fun e=>by
   rw [e,Nat.zero_mul] at h4;have:=Fd.1 h4.symm;omega
 show ∃r,((Ieee.double.read x).quotient (Ieee.double.fractionBits+2) (Ieee.double.read z)).map Ieee.double.write=some r;rw [h2];rcases read_fin hx with ⟨m,p,h⟩ | h
 · rw [h]
   unfold Ieee.Datum.quotient;simp only [hm2,if_false];exact ⟨_,rfl⟩
 · rw [h];exact ⟨_,rfl⟩
theorem f10_fin:∀z∈f10L,z % 9223372036854775808<9218868437227405312/\0<z % 9223372036854775808:=by decide +kernel
theorem fltN_nan {neg:Bool} {d:Nat} (h0:0<d) (hd:d<4503599627370496):nanF (fltN neg d)=false:=by
 obtain ⟨R,h1,_,h3,_⟩:=fltN_is (neg:=neg) h0 hd;rw [h1];unfold nanF;rw [decide_eq_false_iff_not];split<;>omega
theorem exact_minus {w:World} {d i:Nat} {neg:Bool} (h0:0<d) (hd:d<4503599627370496) (hi1:1<=i) (hi:i<=22) (hP:Par w) :
   Calls Tryz.prog 212 #[.int .u64 (d:Int),.int .i64 (-(i:Int)),.bool neg] w (ExRes d neg (-(i:Int)) w):=by
 obtain ⟨z,hz⟩:∃z,f10L[i]?=some z:=⟨_,List.getElem?_eq_getElem (show i<23 by omega)⟩
 obtain ⟨z1,z2⟩:=f10_fin z (List.mem_of_getElem? hz)
 obtain ⟨r,hr⟩:=quo_some (fltN_nan (neg:=neg) h0 hd) z1 z2
 refine (exact_neg hd hi1 hi hz hr hP).mono ?_
 rintro e w' ⟨he,hw⟩
 exact ⟨r,true,he,hw,fun _=>⟨hd,.neg hi1 hz hr⟩⟩
set_option maxRecDepth 100000 in
theorem exact_plus {w:World} {d i:Nat} {neg:Bool} (h0:0<d) (hd:d<4503599627370496) (hi1:1<=i) (hi:i<=22) (hP:Par w) :
   Calls Tryz.prog 212 #[.int .u64 (d:Int),.int .i64 (i:Int),.bool neg] w (ExRes d neg (i:Int) w):=by
 obtain ⟨z,hz⟩:∃z,f10L[i]?=some z:=⟨_,List.getElem?_eq_getElem (show i<23 by omega)⟩
 obtain ⟨z1,z2⟩:=f10_fin z (List.mem_of_getElem? hz)
 obtain ⟨r,hr⟩:=mul_some (fltN_nan (neg:=neg) h0 hd) z1 z2
 have hres:d<4503599627370496/\ExOk d neg (i:Int) r:=⟨hd,.pos hi1 hz hr⟩
 obtain ⟨b,c,h1,h2⟩:=hP.tens
 have hb:=hP.bits
 have hnr:=Fq
 have hzd:(d:Int) / 4503599627370496=0:=by omega
 have k0:((i:Int) == 0)=false:=beq_eq_false_iff_ne.2 (by omega)
 have k1:(0:Int)<(i:Int):=by omega
 have k2:(i:Int)<=37:=by omega
 have k3:¬(22:Int)<(i:Int):=by omega
 have k4:(i:Int)<23:=by omega
 have h3:=h2 i z hz
 obtain ⟨F,hF⟩:∃F,floatOfInt .f64 (d:Int)=F:=⟨_,rfl⟩
 obtain ⟨G,hG⟩:∃G,fltN neg d=G:=⟨_,rfl⟩
 have hq:=fun w=>run_float_arith (P:=Tryz.prog) w .mul 23 .f64 G z r (by rw [<-hG];exact hr)
 obtain ⟨g1,hg1⟩:∃g1:Bool,(FloatKind.f64.format.order G 4831355200913801216 == some .gt)=g1:=⟨_,rfl⟩
 obtain ⟨g2,hg2⟩:∃g2:Bool,(FloatKind.f64.format.order G 14054727237768577024 == some .lt)=g2:=⟨_,rfl⟩
 replace hz:=Hd hz
 replace hres:=Hd hres
 clear h2 hr z1 z2
 cases neg
 · obtain rfl:F=G:=by rw [<-hG,<-hF,fltN,if_neg (by decide)]
   clear hG;cases g1
   · cases g2
     · go_enter Tryz.func212,Tryz.ntmps212
       go_wp2
       go_ret2
       exact ⟨r,true,rfl,rfl,fun _=>hres.out⟩
     · go_enter Tryz.func212,Tryz.ntmps212
       go_wp2
       go_ret2
       exact ⟨F,false,rfl,rfl,fun h=>by cases h⟩
   · go_enter Tryz.func212,Tryz.ntmps212
     go_wp2
     go_ret2
     exact ⟨F,false,rfl,rfl,fun h=>by cases h⟩
 · have hFG:Op.negFloat .f64 F=G:=by rw [<-hG,<-hF,fltN,if_pos rfl]
   have hnF:=hnr F;rw [hFG] at hnF;clear hG hFG hnr;cases g1
   · cases g2
     · go_enter Tryz.func212,Tryz.ntmps212
       go_wp2
       go_ret2
       exact ⟨r,true,rfl,rfl,fun _=>hres.out⟩
     · go_enter Tryz.func212,Tryz.ntmps212
       go_wp2
       go_ret2
       exact ⟨G,false,rfl,rfl,fun h=>by cases h⟩
   · go_enter Tryz.func212,Tryz.ntmps212
     go_wp2
     go_ret2
     exact ⟨G,false,rfl,rfl,fun h=>by cases h⟩
theorem mul_nan {neg:Bool} {d z f:Nat} (h0:0<d) (hd:d<4503599627370496) (hz:z<9218868437227405312) (hz0:0<z) (h:floatBits .mul .f64 (fltN neg d) z=some f):nanF f=false:=by
 obtain ⟨R,h1,_,h3,h4⟩:=fltN_is (neg:=neg) h0 hd;obtain ⟨r,h5,_⟩:=F9 (n1:=neg) h3 h4 hz hz0;have h6:floatBits .mul .f64 (fltN neg d) z=some ((if neg then 9223372036854775808 else 0)+min r 9218868437227405312):=by rw [h1];exact h5
 rw [h] at h6;rw [Option.some.inj h6];unfold nanF;rw [decide_eq_false_iff_not];split<;>omega
set_option maxRecDepth 100000 in
set_option maxHeartbeats 1600000 in
theorem exact_far {w:World} {d i:Nat} {neg:Bool} (h0:0<d) (hd:d<4503599627370496) (hi1:1<=i) (hi:i<=15) (hP:Par w) :
   Calls Tryz.prog 212 #[.int .u64 (d:Int),.int .i64 (22+(i:Int)),.bool neg] w (ExRes d neg (22+(i:Int)) w):=by
 obtain ⟨z,hz⟩:∃z,f10L[i]?=some z:=⟨_,List.getElem?_eq_getElem (show i<23 by omega)⟩
 obtain ⟨z1,z2⟩:=f10_fin z (List.mem_of_getElem? hz)
 obtain ⟨z3,z4⟩:=Fs z (List.mem_of_getElem? hz)
 obtain ⟨f,hf⟩:=mul_some (fltN_nan (neg:=neg) h0 hd) z1 z2
 obtain ⟨r,hr⟩:=mul_some (z:=4936209963552724370) (mul_nan h0 hd z3 z4 hf) (by decide) (by decide)
 obtain ⟨b,c,h1,h2⟩:=hP.tens
 have hb:=hP.bits
 have hnr:=Fq
 have hzd:(d:Int) / 4503599627370496=0:=by omega
 obtain ⟨p,hp⟩:∃p:Int,22+(i:Int)=p:=⟨_,rfl⟩
 have k0:(p == 0)=false:=beq_eq_false_iff_ne.2 (by omega)
 have k1:(0:Int)<p:=by omega
 have k2:p<=37:=by omega
 have k3:(22:Int)<p:=by omega
 have k4:(i:Int)<23:=by omega
 have k5:p - 22=(i:Int):=by omega
 have h3:=h2 i z hz
 have h4:w.cell? ⟨b.block,b.off+22,none⟩=some (.float .f64 4936209963552724370):=h2 22 4936209963552724370 rfl
 obtain ⟨F,hF⟩:∃F,floatOfInt .f64 (d:Int)=F:=⟨_,rfl⟩
 obtain ⟨G,hG⟩:∃G,fltN neg d=G:=⟨_,rfl⟩
 have hq:=fun w=>run_float_arith (P:=Tryz.prog) w .mul 23 .f64 G z f (by rw [<-hG];exact hf)
 have hq2:=fun w=>run_float_arith (P:=Tryz.prog) w .mul 23 .f64 f 4936209963552724370 r hr
 obtain ⟨g1,hg1⟩:∃g1:Bool,(FloatKind.f64.format.order f 4831355200913801216 == some .gt)=g1:=⟨_,rfl⟩
 obtain ⟨g2,hg2⟩:∃g2:Bool,(FloatKind.f64.format.order f 14054727237768577024 == some .lt)=g2:=⟨_,rfl⟩
 have hres:g1=false->g2=false->d<4503599627370496/\ExOk d neg (22+(i:Int)) r:=fun e1 e2=>⟨hd,.far hi1 hz hf hr (hg1.trans e1) (hg2.trans e2)⟩
 rw [hp] at hres ⊢
 replace hz:=Hd hz
 replace hres:=Hd hres
 clear h2 hr hf z1 z2 hp
 cases neg
 · obtain rfl:F=G:=by rw [<-hG,<-hF,fltN,if_neg (by decide)]
   clear hG;cases g1
   · cases g2
     · go_enter Tryz.func212,Tryz.ntmps212
       go_wp2
       go_ret2
       exact ⟨r,true,rfl,rfl,fun _=>hres.out trivial trivial⟩
     · go_enter Tryz.func212,Tryz.ntmps212
       go_wp2
       go_ret2
       exact ⟨f,false,rfl,rfl,fun h=>by cases h⟩
   · go_enter Tryz.func212,Tryz.ntmps212
     go_wp2
     go_ret2
     exact ⟨f,false,rfl,rfl,fun h=>by cases h⟩
 · have hFG:Op.negFloat .f64 F=G:=by rw [<-hG,<-hF,fltN,if_pos rfl]
   have hnF:=hnr F;rw [hFG] at hnF;clear hG hFG hnr;cases g1
   · cases g2
     · go_enter Tryz.func212,Tryz.ntmps212
       go_wp2
       go_ret2
       exact ⟨r,true,rfl,rfl,fun _=>hres.out trivial trivial⟩
     · go_enter Tryz.func212,Tryz.ntmps212
       go_wp2
       go_ret2
       exact ⟨f,false,rfl,rfl,fun h=>by cases h⟩
   · go_enter Tryz.func212,Tryz.ntmps212
     go_wp2
     go_ret2
     exact ⟨f,false,rfl,rfl,fun h=>by cases h⟩
theorem exact_any {w:World} {d:Nat} {p:Int} {neg:Bool} (h0:0<d) (hd:d<18446744073709551616) (hp1:-100000<=p) (hp2:p<=1000000) (hP:Par w) :
   Calls Tryz.prog 212 #[.int .u64 (d:Int),.int .i64 p,.bool neg] w (ExRes d neg p w):=by
 rcases Nat.lt_or_ge d 4503599627370496 with h | h
 · rcases Int.lt_trichotomy p 0 with hp | hp | hp
   · rcases Int.lt_or_le p (-22) with h22 | h22
     · exact exact_else h (.inr h22) hp1 hp2 hP
     · obtain ⟨i,rfl⟩:∃i:Nat,p=-(i:Int):=⟨(-p).toNat,by omega⟩
       exact exact_minus h0 h (by omega) (by omega) hP
   · subst hp;exact exact_zero h hP
   · rcases Int.lt_or_le 37 p with h37 | h37
     · exact exact_else h (.inl h37) hp1 hp2 hP
     · rcases Int.lt_or_le 22 p with h22 | h22
       · obtain ⟨i,rfl⟩:∃i:Nat,p=22+(i:Int):=⟨(p - 22).toNat,by omega⟩
         exact exact_far h0 h (by omega) (by omega) hP
       · obtain ⟨i,rfl⟩:∃i:Nat,p=(i:Int):=⟨p.toNat,by omega⟩
         exact exact_plus h0 h (by omega) (by omega) hP
 · exact exact_big h hd hP
end Go.Proofs.YtagkgfniihiinaaGreatDoor
