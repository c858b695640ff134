/- internal/strconv.parseFloat64: its walk. -/
import Derived.Test.YtagkgfniihiinaaGreatDoorJ92
import Derived.Test.YtagkgfniihiinaaGreatDoorFtoa
set_option linter.all false
set_option maxHeartbeats 6400000
set_option maxRecDepth 100000
namespace Go.Proofs.YtagkgfniihiinaaGreatDoor
open Go.RowKit
theorem unmin_any (w:World):Calls Tryz.prog 179 #[.int .u64 9007199254740992] w fun e w' => e=.returned (.int .u64 36028797018963966)/\w' = w:=by
 go_enter Tryz.func179,Tryz.ntmps179
 go_wp2;go_ret;exact ⟨rfl,rfl⟩
theorem bool2i_any (b:Bool) (w:World):Calls Tryz.prog 160 #[.bool b] w fun e w' => e=.returned (.int .i64 (b.toNat:Int))/\w' = w:=by
 cases b
 ·go_enter Tryz.func160,Tryz.ntmps160
  go_wp2;go_ret;exact ⟨rfl,rfl⟩
 ·go_enter Tryz.func160,Tryz.ntmps160
  go_wp2;go_ret;exact ⟨rfl,rfl⟩
theorem stick_top {q:Nat} (b:Bool) (h:q<=72057594037927919):Ch q b<=72057594037927919:=by cases b<;>simp [Ch]<;>omega
theorem parse_u {d s:Nat} {p:Int} (hd:0<d) (hd2:d<18446744073709551616) (h0:-348<=p) (h1:p<=347) (hs:8<=s) :
  Co 18446744073709551616 (d * 2 ^ (64 - An d)) (hiT p) (loT p) s<=72057594037927919:=by
 obtain ⟨n0,n1⟩:=norm64 hd hd2;obtain ⟨b1,_,_⟩:=y_bounds (s:=s) h0 h1 n0 n1 hs;rw [uscale_p h0 h1 hs n0 n1];have hE:0<tD p * (18446744073709551616 * 18446744073709551616) * 2 ^ s:=Nat.mul_pos (Nat.mul_pos (Eh p) (by decide)) (Nat.two_pow_pos s);have a:1<=2 ^ (s - 8):=Nat.two_pow_pos _;generalize d * 2 ^ (64 - An d) * tN p=y at *;generalize tD p * (18446744073709551616 * 18446744073709551616) * 2 ^ s=E at *;have hy:y<72057594037927920 * E:=Nat.lt_of_le_of_lt (Nat.le_mul_of_pos_right _ a) b1;unfold unr;refine stick_top _ ?_;have:y / E<72057594037927920:=(Nat.div_lt_iff_lt_mul hE).2 hy;omega
theorem hi_one {d:Nat} {p:Int} (hd:0<d) (hd2:d<18446744073709551616) (h0:-348<=p) (h1:p<=347):1<=d * 2 ^ (64 - An d) * hiT p / 18446744073709551616:=by
 obtain ⟨n0,n1⟩:=norm64 hd hd2;have:=(hi_lt h0 h1).1;have:9223372036854775808 * 9223372036854775808<=d * 2 ^ (64 - An d) * hiT p:=Nat.mul_le_mul n0 this;omega
theorem stick_or (q u:Nat):q ||| (u % 2)=Ch q (decide (u % 2=1)):=by
 have h:u % 2=(decide (u % 2=1)).toNat:=by
  rcases Nat.mod_two_eq_zero_or_one u with h | h<;>simp [h]
 conv=>lhs;rw [h]
 exact or_stick _ _
theorem stick_self (u:Nat):Ch u (decide (u % 2=1))=u:=by
 unfold Ch;rcases Nat.mod_two_eq_zero_or_one u with h | h
 ·simp [h]
 ·simp [h];omega
theorem parse64_any {d:Nat} {p:Int} {sb:Bool} (hd:0<d) (hd2:d<18446744073709551616) (h0:-345<=p) (h1:p<=310) {w:World} (hP:Pows w) :
  Calls Tryz.prog 213 #[.int .u64 (d:Int),.int .i64 p,.int .u64 ((sgB sb:Nat):Int)] w fun e w' => e=.returned (.tuple #[.float .f64 (sgB sb+B8 d p),Bn (B8 d p)])/\Below w.heap.size w w' := by
 obtain ⟨n0,n1⟩:=norm64 hd hd2;have hl:=len64_le hd2;obtain ⟨_,_,a4⟩:=F6 hd;have ay:8<=parS d p:=by unfold parS parE;omega
 have az:parE d p<=1074:=by unfold parE;omega
 have t:parE d p=min 1074 (53 - An d - lp10 p):=rfl;have r:parS d p=-(parE d p - (64 - An d)+lp10 p+3):=rfl;have am:-1200<=lp10 p/\lp10 p<=1200:=by unfold lp10;omega
 obtain ⟨s,hs⟩:∃s:Nat,parS d p=s:=⟨(parS d p).toNat,by omega⟩;obtain ⟨k,hk⟩:∃k:Nat,parE d p=1074 - k:=⟨(1074 - parE d p).toNat,by omega⟩;have ah:=parse_u (d:=d) (s:=s) hd hd2 (p:=p) (by omega) (by omega) (by omega);have ae:=hi_one (d:=d) (p:=p) hd hd2 (by omega) (by omega);have an:=(hi_lt (p:=p) (by omega) (by omega)).2;have ao:=lo_lt p;obtain ⟨u,hu⟩:∃u,u=Co 18446744073709551616 (d * 2 ^ (64 - An d)) (hiT p) (loT p) s:=⟨_,rfl⟩;have hN:B8 d p=if 64<=s then 0 else if 36028797018963966<=u then C5 (rndU (Ch (u / 2) (decide (u % 2=1)))) (k+1) else C5 (rndU u) k:=by
  unfold B8;rw [hs,hk,Int.toNat_natCast,<-hu,show (1075 - (1074 - (k:Int))).toNat=k+1 by omega,show (1074 - (1074 - (k:Int))).toNat=k by omega];by_cases h:64<=s
  ·rw [if_pos (by omega),if_pos h]
  ·rw [if_neg (by omega),if_neg h]
 rw [<-hu] at ah;obtain ⟨B,hB⟩:∃B,B=An d:=⟨_,rfl⟩;obtain ⟨X,hX⟩:∃X,X=d * 2 ^ (64 - An d):=⟨_,rfl⟩;obtain ⟨l,hle⟩:∃l,l=lp10 p:=⟨_,rfl⟩;obtain ⟨R,hR⟩:∃R,R=B8 d p:=⟨_,rfl⟩;rw [<-hX] at ae hu n0 n1;rw [<-hB] at hl a4 t r hX;rw [<-hle] at t r am;rw [hk] at t r az;rw [hs] at ay r;rw [<-hR] at hN ⊢;have hk9:k<=3000:=by omega
 have hs9:s<=6000:=by omega
 have c1:∀w,Calls Tryz.prog 141 #[.int .u64 (d:Int)] w fun e w' => e=.returned (.int .i64 (B:Int))/\w' = w:=fun w=>by
  have:=Tryz.bits_Len64 (d:Int) w (by omega) (by omega);rwa [Int.toNat_natCast,bitLen_eq hd2,<-hB] at this
 have c2:=fun w=>log2P_any p (by omega) (by omega) w;rw [<-hle] at c2;obtain ⟨e1,he1⟩:∃e1:Int,min 1074 (53 - (B:Int) - l)=e1:=⟨_,rfl⟩;have q:e1=1074 - (k:Int):=by omega
 obtain ⟨b6,hb6⟩:∃b6:Nat,(64:Int) - (B:Int)=(b6:Int):=⟨64 - B,by omega⟩;have ap:64 - B=b6:=by omega
 rw [ap] at hX;obtain ⟨e2,he2⟩:∃e2:Int,e1 - (b6:Int)=e2:=⟨_,rfl⟩;have aq:-(e2+l+3)=(s:Int):=by omega
 have hXi:(d:Int) * 2 ^ b6=(X:Int):=by rw [hX];simp
 have hb69:b6<=63:=by omega
 have he19:-3000<=e1/\e1<=1074:=by omega
 have he29:-3000<=e2/\e2<=1074:=by omega
 obtain ⟨w1,hw1⟩:∃w1,w1=w.alloc (.cells #[.int .u64 0,.int .u64 0,.int .i64 0] 234):=⟨_,rfl⟩;have af:Below w.heap.size w w1:=by rw [hw1];exact (Below.refl _ _).alloc (Nat.le_refl _) _
 have ar:Pows w1:=hP.below af hP.lt;have ag:Blk w1 w.heap.size:=by rw [hw1];exact Blk.new _ _ _
 have ai:w1.cell? ⟨w.heap.size,0,none⟩=some (.int .u64 0):=by rw [hw1,World.cell?_alloc_new];rfl
 have aj:w1.cell? ⟨w.heap.size,1,none⟩=some (.int .u64 0):=by rw [hw1,World.cell?_alloc_new];rfl
 have ak:w1.cell? ⟨w.heap.size,2,none⟩=some (.int .i64 0):=by rw [hw1,World.cell?_alloc_new];rfl
 have a0:w.heap.size≠8:=by have:=hP.lt;omega
 have f:=Cy (e:=e2) (p:=p) (l:=l) ag ai aj ak ar a0 (by omega) (by omega) (by omega) (by omega) (by omega) (by omega);rw [aq] at f;obtain ⟨w2,hw2⟩:∃w2,w2=((w1.setCell ⟨w.heap.size,0,none⟩ (.int .u64 (hiT p:Int))).setCell ⟨w.heap.size,1,none⟩ (.int .u64 (loT p:Int))).setCell ⟨w.heap.size,2,none⟩ (.int .i64 (s:Int)):=⟨_,rfl⟩;rw [<-hw2] at f;have j:Below w.heap.size w w2:=by
  rw [hw2];refine af.trans ?_;exact ((((Fr.refl (fun k=>k=w.heap.size) w1).setCell (fun _=>rfl) _).setCell (fun _=>rfl) _).setCell (fun _=>rfl) _).below af.size (fun i hi e=>by omega)
 have d0:w2.cell? ⟨w.heap.size,0,none⟩=some (.int .u64 (hiT p:Int)):=by rw [hw2,Ac (by simp),Ac (by simp)];exact Ak ai
 have d1:w2.cell? ⟨w.heap.size,1,none⟩=some (.int .u64 (loT p:Int)):=by rw [hw2,Ac (by simp)];exact Ak (by rw [Ac (by simp)];exact aj)
 have d2:w2.cell? ⟨w.heap.size,2,none⟩=some (.int .i64 (s:Int)):=by rw [hw2];exact Ak (by rw [Ac (by simp),Ac (by simp)];exact ak)
 have f1:=fun w=>Cl (sgB sb) w;have o0:bits .or .u64 ((sgB sb:Nat):Int) 0=((sgB sb:Nat):Int):=by
  have h1:=Bj (x:=sgB sb) (y:=0) (by unfold sgB;split<;>omega) (by omega);rw [Nat.or_zero] at h1;exact h1
 obtain ⟨SG,hSG⟩:∃SG,SG=sgB sb:=⟨_,rfl⟩;replace c1:=Hd c1;replace c2:=Hd c2;replace f:=Hd f;replace hw2:=Hd hw2;replace hw1e:=Hd hw1;replace j:=Hd j;replace hX:=Hd hX;replace hu:=Hd hu;replace hN:=Hd hN;replace hR:=Hd hR;replace hB:=Hd hB;replace hle:=Hd hle;replace q:=Hd q;replace r:=Hd r;replace t:=Hd t;replace ae:=Hd ae;clear hP ar ag ai aj ak af hs hk aq;by_cases h64:64<=s
 ·have au:R=0:=by rw [hN.out,if_pos h64]
  have av:Bn 0=.nilIface:=if_neg (by decide);rw [au,av,Nat.add_zero,<-hSG];rw [<-hSG] at f1 o0;have aw:(64:Int)<=(s:Int):=by omega
  replace hSG:=Hd hSG;clear au av
  go_enter Tryz.func213,Tryz.ntmps213
  go_wp2_with fail
  refine (c1.out _).mono ?_;rintro e w' ⟨rfl,a⟩;obtain rfl:=a.symm;clear a;go_wp2_with fail
  refine (c2.out _).mono ?_;rintro e w' ⟨rfl,a⟩;obtain rfl:=a.symm;clear a;go_wp2_with fail
  rw [<-hw1e.out];refine f.out.mono ?_;rintro e w' ⟨rfl,a⟩;obtain rfl:=a.symm;clear a;go_wp2
  go_ret2
  exact ⟨rfl,j.out⟩
 ·have aw:¬(64:Int)<=(s:Int):=by omega
  have z:=uscaleW_any (w:=w2) (b:=w.heap.size) (x:=X) (hi:=hiT p) (lo:=loT p) (s:=s) n1 an ao (by omega) ae.out d0 d1 d2;rw [<-hu.out] at z;replace z:=Hd z;have g:=hN.out;rw [if_neg h64] at g;have hu64:(u:Int)<=72057594037927919:=by omega
  clear n0 an ao;by_cases hbig:36028797018963966<=u
  ·rw [if_pos hbig] at g
   have a1:(36028797018963966:Int)<=(u:Int):=by omega
   have cb:=bool2i_any true;obtain ⟨h,hh⟩:∃h,h=u / 2:=⟨_,rfl⟩;have hdv:(u:Int) / 2=(h:Int):=by omega
   obtain ⟨b,hb⟩:∃b,b=u % 2:=⟨_,rfl⟩;have a2:(u:Int) % 2=(b:Int):=by omega
   have ax:bits .and .u64 (u:Int) 1=(b:Int):=by
    have:=Cb (x:=u) (y:=1) (by omega) (by omega);rw [and_1,<-hb] at this;exact this
   obtain ⟨v,hv⟩:∃v,v=Ch (u / 2) (decide (u % 2=1)):=⟨_,rfl⟩;have a3:bits .or .u64 (h:Int) (b:Int)=(v:Int):=by
    have:=Bj (x:=h) (y:=b) (by omega) (by omega);rw [hh,hb,stick_or,<-hv] at this;rw [hh,hb];exact this
   have hv9:v<=36028797018963960:=by rw [hv];unfold Ch;split<;>omega
   obtain ⟨m,hm⟩:∃m,m=rndU v:=⟨_,rfl⟩;have al:m<9007199254740992:=by rw [hm];unfold rndU;omega
   rw [<-hv,<-hm] at g;have aa:=g;have cr:=fun w=>Ey v m (by omega) hm.symm w;obtain ⟨e3,he3⟩:∃e3:Int,e1 - 1=e3:=⟨_,rfl⟩;have n:(((k+1:Nat):Int) - 1074)=-e3:=by have:=q.out;omega
   have he39:-3001<=e3/\e3<=1074:=by omega
   replace cb:=Hd cb;replace cr:=Hd cr;replace hh:=Hd hh;replace hb:=Hd hb;replace hv:=Hd hv;replace hm:=Hd hm;clear g hbig;have c:=fun w=>pack64_any (m:=m) (k:=(k+1)) (sb:=sb) al (by omega) w;have o:R=C5 m (k+1):=aa;rw [<-o,<-hSG,n] at c;replace n:=Hd n;have ab:bits .or .u64 (SG:Int) ((m:Nat):Int)=((SG+m:Nat):Int):=by
    have h1:=Bj (x:=SG) (y:=m) (by rw [hSG];unfold sgB;split<;>omega) (by omega);rw [hSG,sgB_or sb (by omega),<-hSG] at h1;rw [hSG] at h1 ⊢;exact h1
   obtain ⟨Z,hZ⟩:∃Z,Z=SG+m:=⟨_,rfl⟩;rw [<-hZ] at c ab;obtain ⟨G,hG⟩:∃G,G=SG+R:=⟨_,rfl⟩;obtain ⟨ER,hER⟩:∃ER,ER=Bn R:=⟨_,rfl⟩;rw [<-hG,<-hER] at c;rw [<-hSG,<-hG,<-hER];replace c:=Hd c;replace hSG:=Hd hSG;replace hZ:=Hd hZ;replace hG:=Hd hG;replace hER:=Hd hER;replace o:=Hd o;clear aa ah hN f1 o0
   go_enter Tryz.func213,Tryz.ntmps213
   go_wp2_with fail
   refine (c1.out _).mono ?_;rintro e w' ⟨rfl,a⟩;obtain rfl:=a.symm;clear a;go_wp2_with fail
   refine (c2.out _).mono ?_;rintro e w' ⟨rfl,a⟩;obtain rfl:=a.symm;clear a;go_wp2_with fail
   rw [<-hw1e.out];refine f.out.mono ?_;rintro e w' ⟨rfl,a⟩;obtain rfl:=a.symm;clear a;go_wp2_with fail
   refine z.out.mono ?_;rintro e w3 ⟨rfl,ad⟩;have ac:=Hd (j.out.trans (ad.mono j.out.size));clear ad;go_wp2_with fail
   refine (unmin_any _).mono ?_;rintro e w' ⟨rfl,a⟩;obtain rfl:=a.symm;clear a;go_wp2_with fail
   refine (cb.out _).mono ?_;rintro e w' ⟨rfl,a⟩;obtain rfl:=a.symm;clear a;go_wp2_with fail
   refine (cr.out _).mono ?_;rintro e w' ⟨rfl,a⟩;obtain rfl:=a.symm;clear a;go_wp2_with fail
   refine (c.out _).mono ?_;rintro e w' ⟨rfl,a⟩;obtain rfl:=a.symm;clear a;go_wp2
   go_ret2
   exact ⟨rfl,ac.out⟩
  ·rw [if_neg hbig] at g
   have a1:decide ((36028797018963966:Int)<=(u:Int))=false:=decide_eq_false (by omega);have cb:=bool2i_any false;obtain ⟨b,hb⟩:∃b,b=u % 2:=⟨_,rfl⟩;have a2:(u:Int) % 2=(b:Int):=by omega
   have ax:bits .and .u64 (u:Int) 1=(b:Int):=by
    have:=Cb (x:=u) (y:=1) (by omega) (by omega);rw [and_1,<-hb] at this;exact this
   have a3:bits .or .u64 (u:Int) (b:Int)=(u:Int):=by
    have:=Bj (x:=u) (y:=b) (by omega) (by omega);rw [hb,stick_or,stick_self] at this;rw [hb];exact this
   obtain ⟨m,hm⟩:∃m,m=rndU u:=⟨_,rfl⟩;have al:m<9007199254740992:=by rw [hm];unfold rndU;omega
   rw [<-hm] at g;have aa:=g;have cr:=Hd (fun w=>Ey u m (by omega) hm.symm w);have n:((k:Int) - 1074)=-e1:=by have:=q.out;omega
   replace cb:=Hd cb;replace hb:=Hd hb;replace hm:=Hd hm;clear g hbig;have c:=fun w=>pack64_any (m:=m) (k:=k) (sb:=sb) al (by omega) w;have o:R=C5 m k:=aa;rw [<-o,<-hSG,n] at c;replace n:=Hd n;have ab:bits .or .u64 (SG:Int) ((m:Nat):Int)=((SG+m:Nat):Int):=by
    have h1:=Bj (x:=SG) (y:=m) (by rw [hSG];unfold sgB;split<;>omega) (by omega);rw [hSG,sgB_or sb (by omega),<-hSG] at h1;rw [hSG] at h1 ⊢;exact h1
   obtain ⟨Z,hZ⟩:∃Z,Z=SG+m:=⟨_,rfl⟩;rw [<-hZ] at c ab;obtain ⟨G,hG⟩:∃G,G=SG+R:=⟨_,rfl⟩;obtain ⟨ER,hER⟩:∃ER,ER=Bn R:=⟨_,rfl⟩;rw [<-hG,<-hER] at c;rw [<-hSG,<-hG,<-hER];replace c:=Hd c;replace hSG:=Hd hSG;replace hZ:=Hd hZ;replace hG:=Hd hG;replace hER:=Hd hER;replace o:=Hd o;clear aa ah hN f1 o0
   go_enter Tryz.func213,Tryz.ntmps213
   go_wp2_with fail
   refine (c1.out _).mono ?_;rintro e w' ⟨rfl,a⟩;obtain rfl:=a.symm;clear a;go_wp2_with fail
   refine (c2.out _).mono ?_;rintro e w' ⟨rfl,a⟩;obtain rfl:=a.symm;clear a;go_wp2_with fail
   rw [<-hw1e.out];refine f.out.mono ?_;rintro e w' ⟨rfl,a⟩;obtain rfl:=a.symm;clear a;go_wp2_with fail
   refine z.out.mono ?_;rintro e w3 ⟨rfl,ad⟩;have ac:=Hd (j.out.trans (ad.mono j.out.size));clear ad;go_wp2_with fail
   refine (unmin_any _).mono ?_;rintro e w' ⟨rfl,a⟩;obtain rfl:=a.symm;clear a;go_wp2_with fail
   refine (cb.out _).mono ?_;rintro e w' ⟨rfl,a⟩;obtain rfl:=a.symm;clear a;go_wp2_with fail
   refine (cr.out _).mono ?_;rintro e w' ⟨rfl,a⟩;obtain rfl:=a.symm;clear a;go_wp2_with fail
   refine (c.out _).mono ?_;rintro e w' ⟨rfl,a⟩;obtain rfl:=a.symm;clear a;go_wp2
   go_ret2
   exact ⟨rfl,ac.out⟩
end Go.Proofs.YtagkgfniihiinaaGreatDoor
namespace Go.Proofs.YtagkgfniihiinaaGreatDoor
open Ieee
inductive ExOk (d:Nat) (neg:Bool):Int->Nat->Prop
 | zero:ExOk d neg 0 (fltN neg d)
 | neg {i z r:Nat}:1<=i->f10L[i]?=some z->floatBits .quo .f64 (fltN neg d) z=some r->ExOk d neg (-(i:Int)) r
 | pos {i z r:Nat}:1<=i->f10L[i]?=some z->floatBits .mul .f64 (fltN neg d) z=some r->ExOk d neg (i:Int) r
 | far {i z f r:Nat}:1<=i->f10L[i]?=some z->floatBits .mul .f64 (fltN neg d) z=some f->floatBits .mul .f64 f 4936209963552724370=some r ->
   (FloatKind.f64.format.order f 4831355200913801216 == some .gt)=false->(FloatKind.f64.format.order f 14054727237768577024 == some .lt)=false->ExOk d neg (22+(i:Int)) r
theorem fltN_is {neg:Bool} {d:Nat} (h0:0<d) (hd:d<4503599627370496):∃R,fltN neg d=(if neg then 9223372036854775808 else 0)+R/\rv R=d * 2 ^ 1074/\R<9218868437227405312/\0<R:=by
 obtain ⟨R,h1,h2,h3,h4⟩:=flt_rung h0 (by omega);refine ⟨R,?_,h2,h3,h4⟩;unfold fltN;rw [h1];cases neg
 ·simp
 ·show R ^^^ 9223372036854775808=9223372036854775808+R
  rw [xor63 (by omega)];unfold flipN;rw [if_pos (by omega)];omega
theorem f10_small:∀z∈f10L,z<9218868437227405312/\0<z:=by decide +kernel
theorem f10_vals:allN 23 (fun i=>match f10L[i]? with | some z=>decide (rv z=10 ^ i * 2 ^ 1074) | none=>true)=true:=by decide +kernel
theorem f10_rv {i z:Nat} (h:f10L[i]?=some z):rv z=10 ^ i * 2 ^ 1074:=by
 have hi:i<23:=(List.getElem?_eq_some_iff.1 h).1;have h1:=F4 f10_vals i hi;simp only [h] at h1;exact of_decide_eq_true h1
theorem pw2 (d T c e:Nat):d * 2 ^ c * 2 ^ e * T=d * 10 ^ 0 * 2 ^ e * (T * 2 ^ c):=by
 rw [Nat.pow_zero,Nat.mul_one];simp only [Nat.mul_assoc,Nat.mul_left_comm,Nat.mul_comm]
theorem pw3 (d T c e f:Nat) (h:c+c=e+f):d * 2 ^ c * (T * 2 ^ c) * 10 ^ 0=d * T * 2 ^ e * 2 ^ f:=by
 rw [Nat.pow_zero,Nat.mul_one,Nat.mul_assoc (d * T),<-Nat.pow_add,<-h,Nat.pow_add];simp only [Nat.mul_assoc,Nat.mul_left_comm,Nat.mul_comm]
theorem mid15:mid 4831355200913801216<2 * (9007199254740992 * 2 ^ 1074):=by decide +kernel
theorem under {X q:Nat} (h:q<=4831355200913801216) (hi:InI q (2 * (X * 2 ^ 1074)) 1):X<9007199254740992:=by
 have h1:=hi.high;have h2:=mid_le h;have h3:=mid15;obtain ⟨P,hP⟩:∃P,P=2 ^ 1074:=⟨_,rfl⟩;rw [<-hP] at h1 h3;rw [Nat.mul_one] at h1;have h4:2 * (X * P)<2 * (9007199254740992 * P):=by
  rcases h1 with h1 | h1
  ·exact Nat.lt_of_lt_of_le h1 (Nat.le_trans h2 (Nat.le_of_lt h3))
  ·rw [h1.1];exact Nat.lt_of_le_of_lt h2 h3
 exact Nat.lt_of_mul_lt_mul_right (Nat.lt_of_mul_lt_mul_left h4)
theorem near15 {neg:Bool} {q:Nat} (h1:(FloatKind.f64.format.order ((if neg then 9223372036854775808 else 0)+min q 9218868437227405312) 4831355200913801216 == some .gt)=false)
  (h2:(FloatKind.f64.format.order ((if neg then 9223372036854775808 else 0)+min q 9218868437227405312) 14054727237768577024 == some .lt)=false):q<=4831355200913801216:=by
 obtain ⟨f,hf⟩:∃f,f=(if neg then 9223372036854775808 else 0)+min q 9218868437227405312:=⟨_,rfl⟩;rw [<-hf] at h1 h2;have a:f<18446744073709551616:=by split at hf<;>omega
 have hn:nanF f=false:=by
  unfold nanF;rw [decide_eq_false_iff_not];split at hf<;>omega
 have h3:Ieee.double.order f 4831355200913801216=_:=Fv a (by decide) hn (by decide);have h4:Ieee.double.order f 14054727237768577024=_:=Fv a (by decide) hn (by decide);rcases Nat.lt_or_ge 4831355200913801216 q with hq | hq
 ·exfalso
  cases neg
  ·have e:compare (sv f) (sv 4831355200913801216)=.gt:=Int.compare_eq_gt.2 (by
    unfold sv;simp only [Bool.false_eq_true,if_false] at hf;rw [if_neg (by omega),if_neg (by omega)];omega)
   rw [e] at h3;have h5:(Ieee.double.order f 4831355200913801216 == some .gt)=false:=h1;rw [h3] at h5;cases h5
  ·have e:compare (sv f) (sv 14054727237768577024)=.lt:=Int.compare_eq_lt.2 (by
    unfold sv;simp only [if_true] at hf;rw [if_pos (by omega),if_pos (by omega)];omega)
   rw [e] at h4;have h5:(Ieee.double.order f 14054727237768577024 == some .lt)=false:=h2;rw [h4] at h5;cases h5
 ·exact hq
theorem ten_at (i:Nat):Aq (-(i:Int))=10 ^ i/\Aq (i:Int)=10 ^ 0/\(-(i:Int)).toNat=0/\((i:Nat):Int).toNat=i:=by
 refine ⟨?_,?_,by omega,by omega⟩
 ·unfold Aq;congr 1;omega
 ·unfold Aq;congr 1;omega
theorem prod_gen {d T q c a b:Nat} (hab:a=b+1) (h:InI q (d * 2 ^ a * (T * 2 ^ a)) (2 ^ b)) (hc:c=d * T):InI q (2 * (c * 2 ^ a)) 1:=by
 refine (InI.cross (Nat.two_pow_pos _) Nat.one_pos ?_).1 h;rw [hc,two_pw (d * T) a (a+1) rfl,Nat.mul_one];have:=pw3 d T a (a+1) b (by omega);rw [Nat.pow_zero,Nat.mul_one] at this;exact this
theorem prod_near {d T q c:Nat} (h:InI q (d * 2 ^ 1074 * (T * 2 ^ 1074)) (2 ^ 1073)) (hc:c=d * T):InI q (2 * (c * 2 ^ 1074)) 1:=prod_gen (a:=1074) (b:=1073) rfl h hc
theorem ex_near {d:Nat} {p:Int} {neg:Bool} {r:Nat} (h0:0<d) (hd:d<4503599627370496) (h:ExOk d neg p r) :
  ∃R,r=(if neg then 9223372036854775808 else 0)+min R 9218868437227405312/\InI R (decA d p) (Aq p):=by
 obtain ⟨R,h1,h2,h3,h4⟩:=fltN_is (neg:=neg) h0 hd;have hb:∀p,0<Aq p:=fun p=>Nat.pow_pos (by decide);cases h with
 | zero=>
  refine ⟨R,by rw [h1,Nat.min_eq_left (Nat.le_of_lt h3)],?_⟩;have e:decA d 0=2 * rv R:=by
   rw [h2,two_pw d 1074 1075 rfl];unfold decA;rw [show Go.Proofs.YtagkgfniihiinaaGreatDoor.hp=1075 from rfl,show (0:Int).toNat=0 from rfl,Nat.pow_zero,Nat.mul_one]
  rw [e];exact InI.self
 | @neg i z r hi1 hz hr=>
  obtain ⟨z3,z4⟩:=f10_small z (List.mem_of_getElem? hz);obtain ⟨q,h5,h6⟩:=quo_rung (n1:=neg) h3 h4 z3 z4;rw [h1] at hr;have h7:some r=some _:=hr.symm.trans h5;have b:0<rv z:=by rw [f10_rv hz];exact mul_tp 1074 (Nat.pow_pos (by decide))
  refine ⟨q,Option.some.inj h7,(InI.cross b (hb _) ?_).1 h6⟩;unfold decA;rw [h2,f10_rv hz,(ten_at i).1,(ten_at i).2.2.1];rw [show Go.Proofs.YtagkgfniihiinaaGreatDoor.hp=1075 from rfl];exact pw2 d (10 ^ i) 1074 1075
 | @pos i z r hi1 hz hr=>
  obtain ⟨z3,z4⟩:=f10_small z (List.mem_of_getElem? hz);obtain ⟨q,h5,h6⟩:=mul_rung (n1:=neg) h3 h4 z3 z4;rw [h1] at hr;have h7:some r=some _:=hr.symm.trans h5;refine ⟨q,Option.some.inj h7,(InI.cross (Nat.two_pow_pos _) (hb _) ?_).1 h6⟩;unfold decA;rw [h2,f10_rv hz,(ten_at i).2.1,(ten_at i).2.2.2];rw [show Go.Proofs.YtagkgfniihiinaaGreatDoor.hp=1075 from rfl];exact pw3 d (10 ^ i) 1074 1075 1073 rfl
 | @far i z f r hi1 hz hf hr ho1 ho2=>
  obtain ⟨z3,z4⟩:=f10_small z (List.mem_of_getElem? hz);obtain ⟨q,h5,h6⟩:=mul_rung (n1:=neg) h3 h4 z3 z4;rw [h1] at hf;have h7:some f=some _:=hf.symm.trans h5;have h8:=Option.some.inj h7;rw [h8] at ho1 ho2;have h9:=near15 ho1 ho2;rw [h2,f10_rv hz] at h6;have a:=prod_near h6 rfl;have g:=under h9 a;obtain ⟨R2,k1,k2⟩:=rung_whole (m:=d * 10 ^ i) (Nat.mul_pos h0 (Nat.pow_pos (by decide))) g;rw [<-k1] at a;have k3:=a.uniq Nat.one_pos InI.self;subst k3;have k4:0<q:=by
   rcases Nat.eq_zero_or_pos q with h | h
   ·rw [h] at k1
    have:rv 0=0:=rfl;exact absurd (k1.symm.trans this) (Nat.pos_iff_ne_zero.1 (mul_tp 1074 (Nat.mul_pos h0 (Nat.pow_pos (by decide)))))
   ·exact h
  rw [h8,Nat.min_eq_left (Nat.le_of_lt k2)] at hr;obtain ⟨y,j1,j2⟩:=mul_rung (n1:=neg) (z:=4936209963552724370) k2 k4 (by decide) (by decide);have j3:some r=some _:=hr.symm.trans j1;refine ⟨y,Option.some.inj j3,(InI.cross (Nat.two_pow_pos _) (hb _) ?_).1 j2⟩;unfold decA;have j:(22+(i:Int))=((22+i:Nat):Int):=by omega
  rw [j,k1,f10_rv (i:=22) (z:=4936209963552724370) rfl,(ten_at _).2.1,(ten_at _).2.2.2,Nat.add_comm 22 i,Nat.pow_add,<-Nat.mul_assoc d];rw [show Go.Proofs.YtagkgfniihiinaaGreatDoor.hp=1075 from rfl];obtain ⟨c73,h73⟩:∃c:Nat,c=1073:=⟨_,rfl⟩;obtain ⟨c74,h74⟩:∃c:Nat,c=1074:=⟨_,rfl⟩;obtain ⟨c75,h75⟩:∃c:Nat,c=1075:=⟨_,rfl⟩;rw [<-h73,<-h74,<-h75];exact pw3 (d * 10 ^ i) (10 ^ 22) c74 c75 c73 (by omega)
theorem ex_pow {d:Nat} {p:Int} {neg:Bool} {r:Nat} (h:ExOk d neg p r):p<=44:=by
 cases h with
 | zero=>decide
 | neg _ _ _=>omega
 | @pos i z r _ hz _=>have:=(List.getElem?_eq_some_iff.1 hz).1;have h2:i<23:=this;omega
 | @far i z f r _ hz _ _ _ _=>have:=(List.getElem?_eq_some_iff.1 hz).1;have h2:i<23:=this;omega
def topN:Nat:=4503599627370496 * 10 ^ 44 * 2 ^ Go.Proofs.YtagkgfniihiinaaGreatDoor.hp
theorem mid_top:topN<mid 9218868437227405311:=by decide +kernel
theorem dec_mono {d D n m:Nat} (hd:d<D) (h:n<=m) (c:Nat):d * 10 ^ n * 2 ^ c<=D * 10 ^ m * 2 ^ c:=
 Nat.mul_le_mul_right _ (Nat.mul_le_mul (Nat.le_of_lt hd) (Nat.pow_le_pow_right (by decide) h))
theorem fin_near {d R:Nat} {p:Int} (hd:d<4503599627370496) (hp:p<=44) (h:InI R (decA d p) (Aq p)):R<9218868437227405312:=by
 rcases Nat.lt_or_ge R 9218868437227405312 with hR | hR
 ·exact hR
 ·exfalso
  have hb:0<Aq p:=Nat.pow_pos (by decide);have a:9218868437227405311<=R - 1:=by clear hd;omega
  have h1:mid (R - 1) * Aq p<=decA d p:=by
   rcases h.low with h | h | h
   ·omega
   ·exact Nat.le_of_lt h
   ·exact Nat.le_of_eq h.1
  have h2:mid 9218868437227405311<=mid (R - 1):=mid_le a;have h3:mid (R - 1)<=mid (R - 1) * Aq p:=Nat.le_mul_of_pos_right _ hb;have b:p.toNat<=44:=by omega
  have h4:decA d p<=topN:=dec_mono hd b Go.Proofs.YtagkgfniihiinaaGreatDoor.hp;exact absurd (Nat.le_trans h2 (Nat.le_trans h3 (Nat.le_trans h1 h4))) (Nat.not_le.2 mid_top)
end Go.Proofs.YtagkgfniihiinaaGreatDoor
namespace Go.Proofs.YtagkgfniihiinaaGreatDoor
open Go.RowKit
def ExRes (d:Nat) (neg:Bool) (p:Int) (w:World) (e:Ending) (w' : World):Prop:=∃(f:Nat) (ok:Bool),e=.returned (.tuple #[.float .f64 f,.bool ok])/\w' = w/\(ok=true->d<4503599627370496/\ExOk d neg p f)
theorem exact_big {w:World} {d:Nat} {p:Int} {neg:Bool} (hd:4503599627370496<=d) (hd2:d<18446744073709551616) (hP:Par w) :
  Calls Tryz.prog 212 #[.int .u64 (d:Int),.int .i64 p,.bool neg] w (ExRes d neg p w):=by
 obtain ⟨b,c,h1,h2⟩:=hP.tens;have hb:=hP.bits;have a:=F0;obtain ⟨q,hq⟩:∃q:Nat,(d:Int) / 4503599627370496=(q:Int):=⟨d / 4503599627370496,by omega⟩;have hq0:((q:Int) != 0)=true:=by simp;omega
 clear h1 h2 a
 go_enter Tryz.func212,Tryz.ntmps212
 go_wp2
 go_ret2
 exact ⟨0,false,rfl,rfl,fun h=>by cases h⟩
theorem exact_zero {w:World} {d:Nat} {neg:Bool} (hd:d<4503599627370496) (hP:Par w) :
  Calls Tryz.prog 212 #[.int .u64 (d:Int),.int .i64 0,.bool neg] w (ExRes d neg 0 w):=by
 obtain ⟨b,c,h1,h2⟩:=hP.tens;have hb:=hP.bits;have e:=F0;have hz:(d:Int) / 4503599627370496=0:=by omega
 obtain ⟨F,hF⟩:∃F,floatOfInt .f64 (d:Int)=F:=⟨_,rfl⟩;obtain ⟨G,hG⟩:∃G,fltN neg d=G:=⟨_,rfl⟩;have a:d<4503599627370496/\ExOk d neg 0 G:=⟨hd,hG ▸ .zero⟩;replace a:=Hd a;clear h1 h2;cases neg
 ·obtain rfl:F=G:=by rw [<-hG,<-hF,fltN,if_neg (by decide)]
  clear hG
  go_enter Tryz.func212,Tryz.ntmps212
  go_wp2
  go_ret2
  exact ⟨F,true,rfl,rfl,fun _=>a.out⟩
 ·have f:Op.negFloat .f64 F=G:=by rw [<-hG,<-hF,fltN,if_pos rfl]
  have g:=e F;rw [f] at g;clear hG f e
  go_enter Tryz.func212,Tryz.ntmps212
  go_wp2
  go_ret2
  exact ⟨G,true,rfl,rfl,fun _=>a.out⟩
theorem exact_else {w:World} {d:Nat} {p:Int} {neg:Bool} (hd:d<4503599627370496) (hp:37<p\/p < -22) (hp1:-100000<=p) (hp2:p<=1000000) (hP:Par w) :
  Calls Tryz.prog 212 #[.int .u64 (d:Int),.int .i64 p,.bool neg] w (ExRes d neg p w):=by
 obtain ⟨b,c,h1,h2⟩:=hP.tens;have hb:=hP.bits;have a:=F0;have hz:(d:Int) / 4503599627370496=0:=by omega
 have hp0:(p == 0)=false:=beq_eq_false_iff_ne.2 (by omega);obtain ⟨F,hF⟩:∃F,floatOfInt .f64 (d:Int)=F:=⟨_,rfl⟩;clear h1 h2;rcases hp with hp | hp
 ·have k1:(0:Int)<p:=by omega
  have k2:¬p<=37:=by omega
  have k3:¬p<0:=by omega
  cases neg
  ·go_enter Tryz.func212,Tryz.ntmps212
   go_wp2
   go_ret2
   exact ⟨F,false,rfl,rfl,fun h=>by cases h⟩
  ·have e:=a F
   clear a
   go_enter Tryz.func212,Tryz.ntmps212
   go_wp2
   go_ret2
   exact ⟨_,false,rfl,rfl,fun h=>by cases h⟩
 ·have k1:¬(0:Int)<p:=by omega
  have k2:p<0:=by omega
  have k3:¬-22<=p:=by omega
  cases neg
  ·go_enter Tryz.func212,Tryz.ntmps212
   go_wp2
   go_ret2
   exact ⟨F,false,rfl,rfl,fun h=>by cases h⟩
  ·have e:=a F
   clear a
   go_enter Tryz.func212,Tryz.ntmps212
   go_wp2
   go_ret2
   exact ⟨_,false,rfl,rfl,fun h=>by cases h⟩
theorem read_fin {n:Nat} (h:nanF n=false):(∃m p,Ieee.double.read n=.number (negF n) m p)\/Ieee.double.read n=.infinity (negF n):=by
 unfold nanF at h;have h2:=of_decide_eq_false h;rcases Nat.lt_or_ge (n % 9223372036854775808) 9218868437227405312 with h1 | h1
 ·obtain ⟨m,p,h3,_⟩:=C2 h1
  exact .inl ⟨m,p,h3⟩
 ·exact .inr (read_inf (by omega))
theorem mul_some {x z:Nat} (hx:nanF x=false) (hz:z % 9223372036854775808<9218868437227405312) (hz0:0<z % 9223372036854775808):∃r,floatBits .mul .f64 x z=some r:=by
 obtain ⟨m2,p2,h2,h3,h4⟩:=C2 hz;have a:m2≠0:=fun e=>by
  rw [e,Nat.zero_mul] at h4;have:=rv_pos.1 h4.symm;omega
 show ∃r,((Ieee.double.read x).product (Ieee.double.read z)).map Ieee.double.write=some r;rw [h2];rcases read_fin hx with ⟨m,p,h⟩ | h
 ·rw [h];exact ⟨_,rfl⟩
 ·rw [h]
  unfold Ieee.Datum.product;simp only [a,if_false];exact ⟨_,rfl⟩
theorem quo_some {x z:Nat} (hx:nanF x=false) (hz:z % 9223372036854775808<9218868437227405312) (hz0:0<z % 9223372036854775808):∃r,floatBits .quo .f64 x z=some r:=by
 obtain ⟨m2,p2,h2,h3,h4⟩:=C2 hz;have a:m2≠0:=fun e=>by
  rw [e,Nat.zero_mul] at h4;have:=rv_pos.1 h4.symm;omega
 show ∃r,((Ieee.double.read x).quotient (Ieee.double.fractionBits+2) (Ieee.double.read z)).map Ieee.double.write=some r;rw [h2];rcases read_fin hx with ⟨m,p,h⟩ | h
 ·rw [h]
  unfold Ieee.Datum.quotient;simp only [a,if_false];exact ⟨_,rfl⟩
 ·rw [h];exact ⟨_,rfl⟩
theorem f10_fin:∀z∈f10L,z % 9223372036854775808<9218868437227405312/\0<z % 9223372036854775808:=by decide +kernel
theorem fltN_nan {neg:Bool} {d:Nat} (h0:0<d) (hd:d<4503599627370496):nanF (fltN neg d)=false:=by
 obtain ⟨R,h1,_,h3,_⟩:=fltN_is (neg:=neg) h0 hd;rw [h1];unfold nanF;rw [decide_eq_false_iff_not];split<;>omega
theorem exact_minus {w:World} {d i:Nat} {neg:Bool} (h0:0<d) (hd:d<4503599627370496) (hi1:1<=i) (hi:i<=22) (hP:Par w) :
  Calls Tryz.prog 212 #[.int .u64 (d:Int),.int .i64 (-(i:Int)),.bool neg] w (ExRes d neg (-(i:Int)) w):=by
 obtain ⟨z,hz⟩:∃z,f10L[i]?=some z:=⟨_,List.getElem?_eq_getElem (show i<23 by omega)⟩;obtain ⟨z1,z2⟩:=f10_fin z (List.mem_of_getElem? hz);obtain ⟨r,hr⟩:=quo_some (fltN_nan (neg:=neg) h0 hd) z1 z2;refine (exact_neg hd hi1 hi hz hr hP).mono ?_;rintro e w' ⟨he,hw⟩;exact ⟨r,true,he,hw,fun _=>⟨hd,.neg hi1 hz hr⟩⟩
theorem exact_plus {w:World} {d i:Nat} {neg:Bool} (h0:0<d) (hd:d<4503599627370496) (hi1:1<=i) (hi:i<=22) (hP:Par w) :
  Calls Tryz.prog 212 #[.int .u64 (d:Int),.int .i64 (i:Int),.bool neg] w (ExRes d neg (i:Int) w):=by
 obtain ⟨z,hz⟩:∃z,f10L[i]?=some z:=⟨_,List.getElem?_eq_getElem (show i<23 by omega)⟩;obtain ⟨z1,z2⟩:=f10_fin z (List.mem_of_getElem? hz);obtain ⟨r,hr⟩:=mul_some (fltN_nan (neg:=neg) h0 hd) z1 z2;have a:d<4503599627370496/\ExOk d neg (i:Int) r:=⟨hd,.pos hi1 hz hr⟩;obtain ⟨b,c,h1,h2⟩:=hP.tens;have hb:=hP.bits;have e:=F0;have hzd:(d:Int) / 4503599627370496=0:=by omega
 have k0:((i:Int) == 0)=false:=beq_eq_false_iff_ne.2 (by omega);have k1:(0:Int)<(i:Int):=by omega
 have k2:(i:Int)<=37:=by omega
 have k3:¬(22:Int)<(i:Int):=by omega
 have k4:(i:Int)<23:=by omega
 have h3:=h2 i z hz;obtain ⟨F,hF⟩:∃F,floatOfInt .f64 (d:Int)=F:=⟨_,rfl⟩;obtain ⟨G,hG⟩:∃G,fltN neg d=G:=⟨_,rfl⟩;have hq:=fun w=>run_float_arith (P:=Tryz.prog) w .mul 23 .f64 G z r (by rw [<-hG];exact hr);obtain ⟨g1,hg1⟩:∃g1:Bool,(FloatKind.f64.format.order G 4831355200913801216 == some .gt)=g1:=⟨_,rfl⟩;obtain ⟨g2,hg2⟩:∃g2:Bool,(FloatKind.f64.format.order G 14054727237768577024 == some .lt)=g2:=⟨_,rfl⟩;replace hz:=Hd hz;replace a:=Hd a;clear h2 hr z1 z2;cases neg
 ·obtain rfl:F=G:=by rw [<-hG,<-hF,fltN,if_neg (by decide)]
  clear hG;cases g1
  ·cases g2
   ·go_enter Tryz.func212,Tryz.ntmps212
    go_wp2
    go_ret2
    exact ⟨r,true,rfl,rfl,fun _=>a.out⟩
   ·go_enter Tryz.func212,Tryz.ntmps212
    go_wp2
    go_ret2
    exact ⟨F,false,rfl,rfl,fun h=>by cases h⟩
  ·go_enter Tryz.func212,Tryz.ntmps212
   go_wp2
   go_ret2
   exact ⟨F,false,rfl,rfl,fun h=>by cases h⟩
 ·have f:Op.negFloat .f64 F=G:=by rw [<-hG,<-hF,fltN,if_pos rfl]
  have g:=e F;rw [f] at g;clear hG f e;cases g1
  ·cases g2
   ·go_enter Tryz.func212,Tryz.ntmps212
    go_wp2
    go_ret2
    exact ⟨r,true,rfl,rfl,fun _=>a.out⟩
   ·go_enter Tryz.func212,Tryz.ntmps212
    go_wp2
    go_ret2
    exact ⟨G,false,rfl,rfl,fun h=>by cases h⟩
  ·go_enter Tryz.func212,Tryz.ntmps212
   go_wp2
   go_ret2
   exact ⟨G,false,rfl,rfl,fun h=>by cases h⟩
theorem mul_nan {neg:Bool} {d z f:Nat} (h0:0<d) (hd:d<4503599627370496) (hz:z<9218868437227405312) (hz0:0<z) (h:floatBits .mul .f64 (fltN neg d) z=some f):nanF f=false:=by
 obtain ⟨R,h1,_,h3,h4⟩:=fltN_is (neg:=neg) h0 hd;obtain ⟨r,h5,_⟩:=mul_rung (n1:=neg) h3 h4 hz hz0;have h6:floatBits .mul .f64 (fltN neg d) z=some ((if neg then 9223372036854775808 else 0)+min r 9218868437227405312):=by rw [h1];exact h5
 rw [h] at h6;rw [Option.some.inj h6];unfold nanF;rw [decide_eq_false_iff_not];split<;>omega
theorem exact_far {w:World} {d i:Nat} {neg:Bool} (h0:0<d) (hd:d<4503599627370496) (hi1:1<=i) (hi:i<=15) (hP:Par w) :
  Calls Tryz.prog 212 #[.int .u64 (d:Int),.int .i64 (22+(i:Int)),.bool neg] w (ExRes d neg (22+(i:Int)) w):=by
 obtain ⟨z,hz⟩:∃z,f10L[i]?=some z:=⟨_,List.getElem?_eq_getElem (show i<23 by omega)⟩;obtain ⟨z1,z2⟩:=f10_fin z (List.mem_of_getElem? hz);obtain ⟨z3,z4⟩:=f10_small z (List.mem_of_getElem? hz);obtain ⟨f,hf⟩:=mul_some (fltN_nan (neg:=neg) h0 hd) z1 z2;obtain ⟨r,hr⟩:=mul_some (z:=4936209963552724370) (mul_nan h0 hd z3 z4 hf) (by decide) (by decide);obtain ⟨b,c,h1,h2⟩:=hP.tens;have hb:=hP.bits;have e:=F0;have hzd:(d:Int) / 4503599627370496=0:=by omega
 obtain ⟨p,hp⟩:∃p:Int,22+(i:Int)=p:=⟨_,rfl⟩;have k0:(p == 0)=false:=beq_eq_false_iff_ne.2 (by omega);have k1:(0:Int)<p:=by omega
 have k2:p<=37:=by omega
 have k3:(22:Int)<p:=by omega
 have k4:(i:Int)<23:=by omega
 have k5:p - 22=(i:Int):=by omega
 have h3:=h2 i z hz;have h4:w.cell? ⟨b.block,b.off+22,none⟩=some (.float .f64 4936209963552724370):=h2 22 4936209963552724370 rfl;obtain ⟨F,hF⟩:∃F,floatOfInt .f64 (d:Int)=F:=⟨_,rfl⟩;obtain ⟨G,hG⟩:∃G,fltN neg d=G:=⟨_,rfl⟩;have hq:=fun w=>run_float_arith (P:=Tryz.prog) w .mul 23 .f64 G z f (by rw [<-hG];exact hf);have hq2:=fun w=>run_float_arith (P:=Tryz.prog) w .mul 23 .f64 f 4936209963552724370 r hr;obtain ⟨g1,hg1⟩:∃g1:Bool,(FloatKind.f64.format.order f 4831355200913801216 == some .gt)=g1:=⟨_,rfl⟩;obtain ⟨g2,hg2⟩:∃g2:Bool,(FloatKind.f64.format.order f 14054727237768577024 == some .lt)=g2:=⟨_,rfl⟩;have a:g1=false->g2=false->d<4503599627370496/\ExOk d neg (22+(i:Int)) r:=fun e1 e2=>⟨hd,.far hi1 hz hf hr (hg1.trans e1) (hg2.trans e2)⟩;rw [hp] at a ⊢;replace hz:=Hd hz;replace a:=Hd a;clear h2 hr hf z1 z2 hp;cases neg
 ·obtain rfl:F=G:=by rw [<-hG,<-hF,fltN,if_neg (by decide)]
  clear hG;cases g1
  ·cases g2
   ·go_enter Tryz.func212,Tryz.ntmps212
    go_wp2
    go_ret2
    exact ⟨r,true,rfl,rfl,fun _=>a.out trivial trivial⟩
   ·go_enter Tryz.func212,Tryz.ntmps212
    go_wp2
    go_ret2
    exact ⟨f,false,rfl,rfl,fun h=>by cases h⟩
  ·go_enter Tryz.func212,Tryz.ntmps212
   go_wp2
   go_ret2
   exact ⟨f,false,rfl,rfl,fun h=>by cases h⟩
 ·have g:Op.negFloat .f64 F=G:=by rw [<-hG,<-hF,fltN,if_pos rfl]
  have j:=e F;rw [g] at j;clear hG g e;cases g1
  ·cases g2
   ·go_enter Tryz.func212,Tryz.ntmps212
    go_wp2
    go_ret2
    exact ⟨r,true,rfl,rfl,fun _=>a.out trivial trivial⟩
   ·go_enter Tryz.func212,Tryz.ntmps212
    go_wp2
    go_ret2
    exact ⟨f,false,rfl,rfl,fun h=>by cases h⟩
  ·go_enter Tryz.func212,Tryz.ntmps212
   go_wp2
   go_ret2
   exact ⟨f,false,rfl,rfl,fun h=>by cases h⟩
theorem exact_any {w:World} {d:Nat} {p:Int} {neg:Bool} (h0:0<d) (hd:d<18446744073709551616) (hp1:-100000<=p) (hp2:p<=1000000) (hP:Par w) :
  Calls Tryz.prog 212 #[.int .u64 (d:Int),.int .i64 p,.bool neg] w (ExRes d neg p w):=by
 rcases Nat.lt_or_ge d 4503599627370496 with h | h
 ·rcases Int.lt_trichotomy p 0 with hp | hp | hp
  ·rcases Int.lt_or_le p (-22) with a | a
   ·exact exact_else h (.inr a) hp1 hp2 hP
   ·obtain ⟨i,rfl⟩:∃i:Nat,p=-(i:Int):=⟨(-p).toNat,by omega⟩
    exact exact_minus h0 h (by omega) (by omega) hP
  ·subst hp;exact exact_zero h hP
  ·rcases Int.lt_or_le 37 p with b | b
   ·exact exact_else h (.inl b) hp1 hp2 hP
   ·rcases Int.lt_or_le 22 p with a | a
    ·obtain ⟨i,rfl⟩:∃i:Nat,p=22+(i:Int):=⟨(p - 22).toNat,by omega⟩
     exact exact_far h0 h (by omega) (by omega) hP
    ·obtain ⟨i,rfl⟩:∃i:Nat,p=(i:Int):=⟨p.toNat,by omega⟩
     exact exact_plus h0 h (by omega) (by omega) hP
 ·exact exact_big h hd hP
def AtofRes (d:Nat) (neg:Bool) (p:Int) (s:ByteArray) (w:World) (e:Ending) (w' : World):Prop:=
 ∃R,InI R (decA d p) (Aq p)/\e=.returned (.tuple #[.float .f64 (sgB neg+min R 9218868437227405312),.int .i64 (s.size:Int),Bn (min R 9218868437227405312)])/\Below w.heap.size w w'
theorem atof_mid {s:ByteArray} {neg d:Bool} {L:List UInt8} {m:Nat} {x p:Int} (h:FTxt s neg d L m x) (h0:0<Av L) (h1:Av L<18446744073709551616) (ht:Bd L=false) (hx:expF d L m x=p) (hp1:-345<=p) (hp2:p<=310) {w:World} (hP:Par w) (hW:Pows w) :
  Calls Tryz.prog 164 #[.string s] w (AtofRes (Av L) neg p s w):=by
 have j:=C7 h w;obtain ⟨⟨c,body,rest,hs,hc,_⟩,y,_⟩:=h;have k:=D8 hs hc y w;rw [ht,hx] at j;obtain ⟨mt,hmt⟩:∃mt,Av L=mt:=⟨_,rfl⟩;rw [hmt] at j h0 h1 ⊢;have l:=exact_any (neg:=neg) h0 h1 (p:=p) (by omega) (by omega) hP;have b:=parse64_any (sb:=neg) h0 h1 hp1 hp2 hW;obtain ⟨R,q,t⟩:=Fs h0 h1 (p:=p) (by omega) (by omega);rw [t] at b;have i:∀r w', mt<4503599627370496->ExOk mt neg p r->Below w.heap.size w w' -> AtofRes mt neg p s w (.returned (.tuple #[.float .f64 r,.int .i64 (s.size:Int),.nilIface])) w' := by
  intro r w' hd h hw;obtain ⟨R,e,hI⟩:=ex_near (p:=p) (neg:=neg) (r:=r) h0 hd h;have hf:=fin_near hd (ex_pow h) hI;refine ⟨R,hI,?_,hw⟩;rw [Nat.min_eq_left (Nat.le_of_lt hf)] at e ⊢;have n:¬R=9218868437227405312:=by clear e;omega
  unfold Bn sgB;rw [if_neg n,<-e]
 have hopt:=hP.opt;have hk1:¬(310:Int)<p:=by omega
 have hk2:¬p < -345:=by omega
 have hm0:((mt:Int) == 0)=false:=by simp;omega
 have hb:=Cj neg;have hsz2:(s.size:Int)<=1000:=by omega
 obtain ⟨S,hS⟩:∃S:Nat,S=sgB neg:=⟨_,rfl⟩;have g:∀w', Below w.heap.size w w' -> AtofRes mt neg p s w (.returned (.tuple #[.float .f64 (S+min R 9218868437227405312),.int .i64 (s.size:Int),Bn (min R 9218868437227405312)])) w' := fun w' hw=>⟨R,q,by rw [hS],hw⟩;rw [<-hS] at b;obtain ⟨M,hM⟩:∃M,M=min R 9218868437227405312:=⟨_,rfl⟩;rw [<-hM] at b g;obtain ⟨V,hV⟩:∃V,V=Bn M:=⟨_,rfl⟩;rw [<-hV] at b g;have o:(S:Int)=(neg.toNat:Int) * 9223372036854775808:=by rw [hS];cases neg<;>rfl
 rw [o] at b;have n:neg.toNat<=1:=by cases neg<;>decide
 obtain ⟨nn,hnn⟩:∃nn:Nat,nn=neg.toNat:=⟨_,rfl⟩;rw [<-hnn] at n hb b;clear hS hnn o;replace j:=Hd j;replace l:=Hd l;replace k:=Hd k;replace hb:=Hd hb;replace b:=Hd b;replace g:=Hd g;replace i:=Hd i;clear hx ht hs hc hmt hP hW q t hM hV
 go_enter Tryz.func164,Tryz.ntmps164
 go_wp2_with fail
 refine k.out.mono ?_;rintro e w' ⟨rfl,a⟩;obtain rfl:=a.symm;clear a;go_wp2_with fail
 refine j.out.mono ?_;rintro e w' ⟨rfl,a⟩;obtain rfl:=a.symm;clear a;go_wp2_with fail
 refine (hb.out _).mono ?_;rintro e w' ⟨rfl,a⟩;obtain rfl:=a.symm;clear a;go_wp2_with fail
 refine l.out.mono ?_;rintro e w' ⟨f,ok,rfl,a,u⟩;obtain rfl:=a.symm;clear a;cases ok with
 | true=>
  obtain ⟨z,hE⟩:=u rfl;go_wp2;exact bodyPost_ret (v:=.tuple #[.float .f64 f,.int .i64 (s.size:Int),.nilIface]) (by simp [results,Tryz.results164,go_sem]) rfl (i.out f _ z hE (.refl _ _))
 | false=>
  clear u;go_wp2_with fail
  refine b.out.mono ?_;rintro e w' ⟨rfl,a⟩;go_wp2;exact bodyPost_ret (v:=.tuple #[.float .f64 (S+M),.int .i64 (s.size:Int),V]) (by simp [results,Tryz.results164,go_sem]) rfl (g.out _ a)
