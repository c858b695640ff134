/- internal/strconv.prescale and the small ones beside it. -/
import Derived.Test.YtagkgfniihiinaaGreatDoorUscW
import Derived.Test.YtagkgfniihiinaaGreatDoorJ56
import Derived.Test.YtagkgfniihiinaaGreatDoorJ83
set_option linter.all false
set_option maxHeartbeats 6400000
set_option maxRecDepth 100000
namespace Go.Proofs.YtagkgfniihiinaaGreatDoor
open Go.RowKit
def Pows (w:World):Prop:=∀p:Int,-348<=p->p<=347->w.cell? ⟨8,(p+348).toNat * 2,none⟩=some (.int .u64 (hiT p:Int))/\w.cell? ⟨8,(p+348).toNat * 2+1,none⟩=some (.int .u64 (loT p:Int))
theorem Pows.lt {w:World} (h:Pows w):8<w.heap.size:=World.block_lt_of_cell? _ _ (h 0 (by decide) (by decide)).1
theorem Pows.fr {S:Nat->Prop} {w w' : World} (h:Pows w) (hf:Fr S w w') (hS:¬S 8):Pows w' := fun p h0 h1=>⟨hf.cell (h p h0 h1).1 hS,hf.cell (h p h0 h1).2 hS⟩
theorem Pows.below {B:Nat} {w w' : World} (h:Pows w) (hb:Below B w w') (hB:8<B):Pows w' := h.fr (Fr.of_below hb) (Nat.not_le_of_lt hB)
theorem log2P_any (x:Int) (h0:-1000<=x) (h1:x<=1000) (w:World):Calls Tryz.prog 173 #[.int .i64 x] w fun e w' => e=.returned (.int .i64 (lp10 x))/\w' = w:=by
 go_enter Tryz.func173,Tryz.ntmps173
 go_wp2;go_ret;exact ⟨rfl,rfl⟩
theorem log10P_any (x:Int) (h0:-3000<=x) (h1:x<=3000) (w:World):Calls Tryz.prog 144 #[.int .i64 x] w fun e w' => e=.returned (.int .i64 (l10p2 x))/\w' = w:=by
 go_enter Tryz.func144,Tryz.ntmps144
 go_wp2;go_ret;exact ⟨rfl,rfl⟩
theorem skewed_any (x:Int) (h0:-3000<=x) (h1:x<=3000) (w:World):Calls Tryz.prog 171 #[.int .i64 x] w fun e w' => e=.returned (.int .i64 (skewF x))/\w' = w:=by
 go_enter Tryz.func171,Tryz.ntmps171
 go_wp2;go_ret;exact ⟨rfl,rfl⟩
theorem ceil_any (u:Nat) (h:u<18446744073709551000) (w:World):Calls Tryz.prog 176 #[.int .u64 (u:Int)] w fun e w' => e=.returned (.int .u64 (((u+3) / 4:Nat):Int))/\w' = w:=by
 go_enter Tryz.func176,Tryz.ntmps176
 go_wp2;go_ret;exact ⟨rfl,rfl⟩
theorem floor_any (u:Nat) (h:u<18446744073709551000) (w:World):Calls Tryz.prog 177 #[.int .u64 (u:Int)] w fun e w' => e=.returned (.int .u64 ((u / 4:Nat):Int))/\w' = w:=by
 go_enter Tryz.func177,Tryz.ntmps177
 go_wp2;go_ret;exact ⟨by simp,rfl⟩
theorem round_any (u:Nat) (h:u<18446744073709551000) (w:World):Calls Tryz.prog 178 #[.int .u64 (u:Int)] w fun e w' => e=.returned (.int .u64 ((rndU u:Nat):Int))/\w' = w:=by
 obtain ⟨q,hq⟩:∃q,q=u / 4:=⟨_,rfl⟩;have hd:((u:Int)) / 4=(q:Int):=by omega
 obtain ⟨m,hm⟩:∃m,m=q % 2:=⟨_,rfl⟩;have hand:bits .and .u64 (q:Int) 1=(m:Int):=by
  have:=Cb (x:=q) (y:=1) (by omega) (by omega);rw [and_1,<-hm] at this;exact this
 have hr:((u:Int)+1+(m:Int)) / 4=((rndU u:Nat):Int):=by unfold rndU;omega
 have hm2:m<=1:=by omega
 generalize rndU u=r at *;clear hq hm
 go_enter Tryz.func178,Tryz.ntmps178
 go_wp2;go_ret;exact ⟨rfl,rfl⟩
theorem hi_lt {p:Int} (h0:-348<=p) (h1:p<=347):9223372036854775808<=hiT p/\hiT p<18446744073709551616:=by
 obtain ⟨_,hh⟩:=at10 hi_ok Fm h0 h1;rw [hiOk,Bool.and_eq_true,decide_eq_true_eq,decide_eq_true_eq] at hh;exact hh
theorem Cy {w:World} {b:Nat} {e p l:Int} {c0 c1 c2:Value} (hb:Blk w b) (h0:w.cell? ⟨b,0,none⟩=some c0) (h1:w.cell? ⟨b,1,none⟩=some c1) (h2:w.cell? ⟨b,2,none⟩=some c2) (hP:Pows w)
  (hbg:b≠8) (p0:-348<=p) (p1:p<=347) (e0:-3000<=e) (e1:e<=3000) (l0:-3000<=l) (l1:l<=3000) :
  Calls Tryz.prog 172 #[.pointer (some ⟨b,0,none⟩),.int .i64 e,.int .i64 p,.int .i64 l] w fun x w' => x=.returned (.tuple #[]) /\
   w' = ((w.setCell ⟨b,0,none⟩ (.int .u64 (hiT p:Int))).setCell ⟨b,1,none⟩ (.int .u64 (loT p:Int))).setCell ⟨b,2,none⟩ (.int .i64 (-(e+l+3))):=by
 obtain ⟨t0,t1⟩:=hP p p0 p1;have g0:=(hi_lt p0 p1).2;have g1:=lo_lt p;generalize hiT p=H at *;generalize loT p=L at *;obtain ⟨q,hq⟩:∃q:Nat,q=(p+348).toNat:=⟨_,rfl⟩;rw [<-hq] at t0 t1;have hqe:p+348=(q:Int):=by omega
 have hq6:q<696:=by omega
 have z0:=hb.frz 0 none;have z1:=hb.frz 1 none;have z2:=hb.frz 2 none;have hbg' : ¬(8=b):=fun h=>hbg h.symm;clear hP hb hq
 go_enter Tryz.func172,Tryz.ntmps172
 go_wp2
 go_end0
 exact ⟨rfl,rfl⟩
theorem nudge_up (u:Nat) (o:Nat) (h:u<18446744073709551000) (ho:o<=1) (w:World):Calls Tryz.prog 175 #[.int .u64 (u:Int),.int .i64 (o:Int)] w fun e w' => e=.returned (.int .u64 ((u+o:Nat):Int))/\w' = w:=by
 go_enter Tryz.func175,Tryz.ntmps175
 go_wp2;go_ret;exact ⟨by simp,rfl⟩
theorem nudge_0 (u:Nat) (h:u<18446744073709551000) (w:World):Calls Tryz.prog 175 #[.int .u64 (u:Int),.int .i64 0] w fun e w' => e=.returned (.int .u64 (u:Int))/\w' = w:=by
 go_enter Tryz.func175,Tryz.ntmps175
 go_wp2;go_ret;exact ⟨rfl,rfl⟩
theorem nudge_down (u:Nat) (h:u<18446744073709551000) (h1:1<=u) (w:World):Calls Tryz.prog 175 #[.int .u64 (u:Int),.int .i64 (-1)] w fun e w' => e=.returned (.int .u64 ((u - 1:Nat):Int))/\w' = w:=by
 obtain ⟨v,rfl⟩:∃v,u=v+1:=⟨u - 1,by omega⟩
 go_enter Tryz.func175,Tryz.ntmps175
 have hw:IntKind.u64.wrap ((v:Int)+1+IntKind.u64.wrap (-1))=(v:Int):=by
  simp [IntKind.wrap,IntKind.bits,IntKind.signed];omega
 replace hw:=Hd hw;go_wp2;go_ret;refine ⟨?_,rfl⟩;show Ending.returned (.int .u64 (IntKind.u64.wrap ((v:Int)+1+IntKind.u64.wrap (-1))))=_;rw [hw.out,Nat.add_sub_cancel]
theorem C8 (u c:Nat) (d:Int) (h:u<18446744073709551000) (hc:(d=0/\c=u)\/(d=1/\c=u+1)\/(d=-1/\u=c+1)) (w:World):Calls Tryz.prog 175 #[.int .u64 (u:Int),.int .i64 d] w fun e w' => e=.returned (.int .u64 (c:Int))/\w' = w:=by
 rcases hc with ⟨rfl,rfl⟩ | ⟨rfl,rfl⟩ | ⟨rfl,rfl⟩
 ·exact nudge_0 _ h w
 ·exact nudge_up u 1 h (by omega) w
 ·exact nudge_down (c+1) h (by omega) w
theorem ceil_is (u c:Nat) (h:u<18446744073709551000) (hc:(u+3) / 4=c) (w:World):Calls Tryz.prog 176 #[.int .u64 (u:Int)] w fun e w' => e=.returned (.int .u64 (c:Int))/\w' = w:=by subst hc;exact ceil_any u h w
theorem floor_is (u c:Nat) (h:u<18446744073709551000) (hc:u / 4=c) (w:World):Calls Tryz.prog 177 #[.int .u64 (u:Int)] w fun e w' => e=.returned (.int .u64 (c:Int))/\w' = w:=by subst hc;exact floor_any u h w
theorem Ey (u c:Nat) (h:u<18446744073709551000) (hc:rndU u=c) (w:World):Calls Tryz.prog 178 #[.int .u64 (u:Int)] w fun e w' => e=.returned (.int .u64 (c:Int))/\w' = w:=by subst hc;exact round_any u h w
theorem stick_le (q:Nat) (b:Bool):Ch q b<=q+1:=by cases b<;>simp [Ch]<;>omega
theorem usc_lt {r x:Nat} (hx:x<18446744073709551616) (h:0<r) (hr:r<9218868437227405312):usc r x<2000000000000000000:=by
 obtain ⟨p0,p1,p2,p3⟩:=E7 h hr;obtain ⟨_,hh⟩:=hi_lt p0 p1;have b:x * hiT (fP r) / 18446744073709551616<18446744073709551616:=by
  have:x * hiT (fP r)<=18446744073709551615 * 18446744073709551615:=Nat.mul_le_mul (by omega) (by omega);omega
 have hp:16<=2 ^ (fSc r).toNat:=by
  have:2 ^ 4<=2 ^ (fSc r).toNat:=Nat.pow_le_pow_right (by decide) (by omega);exact this
 have a:∀H:Nat,H<18446744073709551616->H / 2 ^ (fSc r).toNat<=1152921504606846976:=fun H hH=>by
  have:H / 2 ^ (fSc r).toNat<=H / 16:=Nat.div_le_div_left hp (by decide);omega
 unfold usc Co;split
 ·have:=a _ b
  have:=stick_le (x * hiT (fP r) / 18446744073709551616 / 2 ^ (fSc r).toNat) true;omega
 ·split
  ·have:=a (x * hiT (fP r) / 18446744073709551616 - 1) (by omega)
   have:=stick_le ((x * hiT (fP r) / 18446744073709551616 - 1) / 2 ^ (fSc r).toNat) (decide (1<x * hiT (fP r) % 18446744073709551616+18446744073709551616 - x * loT (fP r) / 18446744073709551616));omega
  ·have:=a _ b
   have:=stick_le (x * hiT (fP r) / 18446744073709551616 / 2 ^ (fSc r).toNat) (decide (1<x * hiT (fP r) % 18446744073709551616 - x * loT (fP r) / 18446744073709551616));omega
theorem usc_h {r x:Nat} (hx:4611686018427387904<=x) (h:0<r) (hr:r<9218868437227405312):1<=x * hiT (fP r) / 18446744073709551616:=by
 obtain ⟨p0,p1,p2,p3⟩:=E7 h hr;obtain ⟨hh,_⟩:=hi_lt p0 p1;have:4611686018427387904 * 9223372036854775808<=x * hiT (fP r):=Nat.mul_le_mul hx hh;omega
def ScalerAt (w:World) (b r:Nat):Prop:=w.cell? ⟨b,0,none⟩=some (.int .u64 (hiT (fP r):Int))/\w.cell? ⟨b,1,none⟩=some (.int .u64 (loT (fP r):Int))/\w.cell? ⟨b,2,none⟩=some (.int .i64 ((fSc r).toNat:Int))
theorem ScalerAt.below {w w' : World} {b r:Nat} (h:ScalerAt w b r) (hb:Below w.heap.size w w'):ScalerAt w' b r:=⟨Aa hb _ _ h.1,Aa hb _ _ h.2.1,Aa hb _ _ h.2.2⟩
theorem Bv {w:World} {b r x:Nat} (hS:ScalerAt w b r) (h:0<r) (hr:r<9218868437227405312) (hx0:4611686018427387904<=x) (hx1:x<18446744073709551616) :
  Calls Tryz.prog 174 #[.int .u64 (x:Int),.pointer (some ⟨b,0,none⟩)] w fun e w' => e=.returned (.int .u64 ((usc r x:Nat):Int))/\Below w.heap.size w w' := by
 obtain ⟨p0,p1,p2,p3⟩:=E7 h hr;exact uscaleW_any hx1 (hi_lt p0 p1).2 (lo_lt _) (by omega) (usc_h hx0 h hr) hS.1 hS.2.1 hS.2.2
theorem shortW_any {w:World} {r:Nat} (h:0<r) (hr:r<9218868437227405312) (hP:Pows w) :
  Calls Tryz.prog 149 #[.int .u64 (xM r:Int),.int .i64 ((rK r:Int) - 1074 - fS r)] w fun x w' => x=.returned (.tuple #[.int .u64 ((A5 r).1:Int),.int .i64 (A5 r).2])/\Below w.heap.size w w' := by
 obtain ⟨s0,s1,s2,s3,s4⟩:=D5 h;obtain ⟨p0,p1,p2,p3⟩:=E7 h hr;obtain ⟨⟨l0,l1,l9⟩,⟨m0,m1,m9⟩,⟨g0,g1,g9⟩⟩:=x_spec h;obtain ⟨bd,bb,hkM3⟩:=Ck r;have hK:=rK_lt hr;have bc:=Gh s0;have aw:fSc r=fS r+1071 - lp10 (fP r) - rK r:=rfl;have ab:xM r=rM r * 2 ^ fS r:=rfl;obtain ⟨S,hS⟩:∃S:Nat,fSc r=S:=⟨(fSc r).toNat,by omega⟩;obtain ⟨e,he⟩:∃e:Int,e=(rK r:Int) - 1074 - fS r:=⟨_,rfl⟩;obtain ⟨p,hp⟩:∃p:Int,p=fP r:=⟨_,rfl⟩;obtain ⟨l,hl⟩:∃l:Int,l=lp10 p:=⟨_,rfl⟩;have ap:-3000<=l/\l<=3000:=by rw [hl,hp];unfold lp10;omega
 have br:-(e+l+3)=(S:Int):=by rw [<-hp,<-hl] at aw;omega
 obtain ⟨o,ho⟩:∃o,o=rM r % 2:=⟨_,rfl⟩;have a2:∀w,Calls Tryz.prog 173 #[.int .i64 p] w fun e w' => e=.returned (.int .i64 l)/\w' = w:=fun w=>by rw [hl];exact log2P_any p (by omega) (by omega) w
 have bk:=hP.lt;have a3:w.heap.size≠8:=by omega
 obtain ⟨w1,hw1⟩:∃w1,w1=w.alloc (.cells #[.int .u64 0,.int .u64 0,.int .i64 0] 234):=⟨_,rfl⟩;have be:Below w.heap.size w w1:=by rw [hw1];exact (Below.refl _ _).alloc (Nat.le_refl _) _
 have a4:Pows w1:=hP.below be bk;have ak:Blk w1 w.heap.size:=by rw [hw1];exact Blk.new _ _ _
 have ax:w1.cell? ⟨w.heap.size,0,none⟩=some (.int .u64 0):=by rw [hw1,World.cell?_alloc_new];rfl
 have ay:w1.cell? ⟨w.heap.size,1,none⟩=some (.int .u64 0):=by rw [hw1,World.cell?_alloc_new];rfl
 have az:w1.cell? ⟨w.heap.size,2,none⟩=some (.int .i64 0):=by rw [hw1,World.cell?_alloc_new];rfl
 have al:∀w2,w2=((w1.setCell ⟨w.heap.size,0,none⟩ (.int .u64 (hiT p:Int))).setCell ⟨w.heap.size,1,none⟩ (.int .u64 (loT p:Int))).setCell ⟨w.heap.size,2,none⟩ (.int .i64 (-(e+l+3)))->Below w.heap.size w w2:=fun w2 q=>by
  subst q;refine be.trans ?_;exact ((((Fr.refl (fun k=>k=w.heap.size) w1).setCell (fun _=>rfl) _).setCell (fun _=>rfl) _).setCell (fun _=>rfl) _).below be.size (fun i hi e=>by omega)
 have am:∀w2,w2=((w1.setCell ⟨w.heap.size,0,none⟩ (.int .u64 (hiT p:Int))).setCell ⟨w.heap.size,1,none⟩ (.int .u64 (loT p:Int))).setCell ⟨w.heap.size,2,none⟩ (.int .i64 (-(e+l+3)))->ScalerAt w2 w.heap.size r:=fun w2 q=>by
  subst q;unfold ScalerAt;rw [<-hp,hS,Int.toNat_natCast,<-br];refine ⟨?_,?_,?_⟩
  ·rw [Ac (by simp),Ac (by simp)];exact Ak ax
  ·rw [Ac (by simp)];exact Ak (by rw [Ac (by simp)];exact ay)
  ·exact Ak (by rw [Ac (by simp),Ac (by simp)];exact az)
 have af:-348<=p/\p<=347:=by rw [hp];exact ⟨p0,p1⟩
 have ag:4611686018427387904<=xLo r/\xLo r<18446744073709551616:=⟨l0,l1⟩;have ah:4611686018427387904<=xHi r/\xHi r<18446744073709551616:=⟨g0,g1⟩;have ai:4611686018427387904<=xM r/\xM r<18446744073709551616:=⟨m0,m1⟩;have bs:=usc_lt l1 h hr;have bt:=usc_lt g1 h hr;have bu:=usc_lt m1 h hr;have a0:fMin r=(usc r (xLo r)+rM r % 2+3) / 4:=rfl;have a1:fMax r=(usc r (xHi r) - rM r % 2) / 4:=rfl;have an:A5 r=if fMin r<=fMax r / 10 * 10 then (fMax r / 10,1 - fP r) else if fMin r<fMax r then (rndU (usc r (xM r)),-fP r) else (fMin r,-fP r):=rfl;have bv:1<=usc r (xHi r):=by
  rw [usc_eq h hr g0 g1 g9];rcases Nat.eq_zero_or_pos (unr (xHi r * tN (fP r)) (tD (fP r) * (18446744073709551616 * 18446744073709551616) * 2 ^ (fSc r).toNat)) with h9 | h9
  ·have:=(Ea (y:=xHi r * tN (fP r)) (Nat.mul_pos (Nat.mul_pos (Eh (fP r)) (show 0<18446744073709551616 * 18446744073709551616 by decide)) (Nat.two_pow_pos (fSc r).toNat))).1 (by rw [h9])
   rw [h9] at this;have:0<xHi r * tN (fP r):=Nat.mul_pos (by omega) (tN_pos _);omega
  ·exact h9
 obtain ⟨uL,hA0⟩:∃u,usc r (xLo r)=u:=⟨_,rfl⟩;obtain ⟨uH,hA1⟩:∃u,usc r (xHi r)=u:=⟨_,rfl⟩;obtain ⟨uM,hA2⟩:∃u,usc r (xM r)=u:=⟨_,rfl⟩;rw [hA0] at bs a0;rw [hA1] at bt a1 bv;rw [hA2] at bu an;rw [<-ho] at a0 a1;rw [<-hp] at an;obtain ⟨nL,hnL⟩:∃n,n=uL+o:=⟨_,rfl⟩;obtain ⟨nH,hnH⟩:∃n,n=uH - o:=⟨_,rfl⟩;obtain ⟨mn,hmn⟩:∃n,n=fMin r:=⟨_,rfl⟩;obtain ⟨mx,hmx⟩:∃n,n=fMax r:=⟨_,rfl⟩;rw [<-hmn] at a0 an;rw [<-hmx] at a1 an;have ho1:o<=1:=by omega
 have a5:(nL+3) / 4=mn:=by rw [a0,hnL]
 have aj:nH / 4=mx:=by rw [a1,hnH]
 have a6:((o:Int)=0/\nL=uL)\/((o:Int)=1/\nL=uL+1)\/((o:Int)=-1/\uL=nL+1):=by omega
 have a7:(-(o:Int)=0/\nH=uH)\/(-(o:Int)=1/\nH=uH+1)\/(-(o:Int)=-1/\uH=nH+1):=by omega
 have hnL9:nL<18446744073709551000:=by omega
 have hnH9:nH<18446744073709551000:=by omega
 replace a2:=Hd a2;replace a3:=Hd a3;replace hw1:=Hd hw1;replace be:=Hd be;replace a4:=Hd a4;replace ak:=Hd ak;replace ax:=Hd ax;replace ay:=Hd ay;replace az:=Hd az;replace al:=Hd al;replace am:=Hd am;have hpb:=af;replace af:=Hd af;replace ag:=Hd ag;replace ah:=Hd ah;replace ai:=Hd ai;replace hA0:=Hd hA0;replace hA1:=Hd hA1;replace hA2:=Hd hA2;replace an:=Hd an;replace a5:=Hd a5;replace aj:=Hd aj;replace a6:=Hd a6;replace a7:=Hd a7;replace hmn:=Hd hmn;replace hmx:=Hd hmx;clear hnL hnH a0 a1 hP bk;cases hs:Do r with
 | true=>
  have bf := hs;rw [Do,Bool.and_eq_true,decide_eq_true_eq,decide_eq_true_eq] at bf;have ao:fS r=11:=s2 bf.2;have bg:-skewF ((rK r:Int) - 1074)=p:=by rw [hp];unfold fP;rw [hs];rfl
  have h2:(2:Nat) ^ (11 - 1)=1024:=by decide
  have h3:(2:Nat) ^ 11=2048:=by decide
  have bl:(xM r:Int) - 512=(xLo r:Int):=by
   have:xLo r=xM r - 512:=by unfold xLo;rw [hs];rfl
   omega
  have bm:(xM r:Int)+1024=(xHi r:Int):=by
   have:xHi r=xM r+2 ^ (fS r - 1):=rfl;rw [ao] at this;omega
  have hM:(xM r:Int) / 2048=(rM r:Int):=by
   rw [ao] at ab;omega
  have bn:bits .and .i64 (rM r:Int) 1=(o:Int):=by
   have:=D6 (x:=rM r) (y:=1) (by omega) (by omega);rw [and_1,<-ho] at this;exact this
  have bo:e+11=(rK r:Int) - 1074:=by omega
  have bp:-1085<e:=by omega
  have ac:xM r=9223372036854775808:=by rw [ab,ao,bf.1]
  have bh:((xM r:Int) == 9223372036854775808)=true:=by rw [ac];rfl
  have m:=skewed_any ((rK r:Int) - 1074) (by omega) (by omega);generalize skewF ((rK r:Int) - 1074)=L at *;rw [<-he];replace m:=Hd m;replace he:=Hd he;replace ab:=Hd ab;replace aw:=Hd aw;replace hS:=Hd hS;replace hp:=Hd hp;replace hl:=Hd hl;replace ho:=Hd ho;replace bd:=Hd bd;replace bc:=Hd bc;clear bb s2 s3 s4 hs bf l9 m9 g9 ao ac h2 h3
  go_enter Tryz.func149,Tryz.ntmps149
  go_wp2_with fail
  refine (m.out _).mono ?_;rintro _ _ ⟨rfl,rfl⟩;go_wp2_with fail
  refine (a2.out _).mono ?_;rintro _ _ ⟨rfl,rfl⟩;go_wp2_with fail
  rw [<-hw1.out];refine (Cy ak.out ax.out ay.out az.out a4.out a3.out af.out.1 af.out.2 (by omega) (by omega) ap.1 ap.2).mono ?_;rintro _ w2 ⟨rfl,q⟩;have t:=Hd (am.out w2 q);have v:=Hd (al.out w2 q);clear q;go_wp2_with fail
  refine (Bv t.out h hr ag.out.1 ag.out.2).mono ?_;rw [hA0.out];rintro _ w3 ⟨rfl,z⟩;have f:=Hd (t.out.below z);have g:=Hd (v.out.trans (z.mono v.out.size));clear z t v;go_wp2_with fail
  refine (C8 uL nL _ (by omega) a6.out _).mono ?_;rintro _ _ ⟨rfl,rfl⟩;go_wp2_with fail
  refine (ceil_is nL mn (by omega) a5.out _).mono ?_;rintro _ _ ⟨rfl,rfl⟩;go_wp2_with fail
  refine (Bv f.out h hr ah.out.1 ah.out.2).mono ?_;rw [hA1.out];rintro _ w4 ⟨rfl,aa⟩;have s:=Hd (f.out.below aa);have b:=Hd (g.out.trans (aa.mono g.out.size));clear aa f g;go_wp2_with fail
  refine (C8 uH nH _ (by omega) a7.out _).mono ?_;rintro _ _ ⟨rfl,rfl⟩;go_wp2_with fail
  refine (floor_is nH mx (by omega) aj.out _).mono ?_;rintro _ _ ⟨rfl,rfl⟩;obtain ⟨d1,hd1⟩:∃d,d=mx / 10:=⟨_,rfl⟩;have bi:(mx:Int).tdiv 10=(d1:Int):=by rw [Int.tdiv_eq_ediv_of_nonneg (by omega)];omega
  have a8:(mx:Int) / 10=(d1:Int):=by omega
  have a9:d1 * 10<=mx:=by omega
  have ba:mx<4700000000000000000:=by have:=aj.out;omega
  have a:=an.out;rw [<-hd1] at a;replace hd1:=Hd hd1;by_cases hA:mn<=d1 * 10
  ·rw [if_pos hA] at a
   have au:(mn:Int)<=(d1:Int) * 10:=by omega
   have j:-(p - 1)=1 - p:=by omega
   replace a:=Hd a;replace j:=Hd j;go_wp2
   go_ret2
   refine ⟨?_,b.out⟩;rw [a.out,<-j.out];try rfl
  ·rw [if_neg hA] at a
   have au:¬(mn:Int)<=(d1:Int) * 10:=by omega
   by_cases hB:mn<mx
   ·rw [if_pos hB] at a
    have av:(mn:Int)<(mx:Int):=by omega
    obtain ⟨rc,hrc⟩:∃c,rndU uM=c:=⟨_,rfl⟩;rw [hrc] at a;replace a:=Hd a;replace hrc:=Hd hrc;go_wp2_with fail
    refine (Bv s.out h hr ai.out.1 ai.out.2).mono ?_;rw [hA2.out];rintro _ w5 ⟨rfl,ae⟩;have ad:=Hd (b.out.trans (ae.mono b.out.size));clear ae s b;go_wp2_with fail
    refine (Ey uM rc (by omega) hrc.out _).mono ?_;rintro _ _ ⟨rfl,rfl⟩;go_wp2
    go_ret2
    refine ⟨?_,ad.out⟩;rw [a.out];try rfl
   ·rw [if_neg hB] at a
    have av:¬(mn:Int)<(mx:Int):=by omega
    replace a:=Hd a;go_wp2
    go_ret2
    refine ⟨?_,b.out⟩;rw [a.out];try rfl
 | false=>
  have bg:-l10p2 ((rK r:Int) - 1074)=p:=by rw [hp];unfold fP;rw [hs];rfl
  have aq:xLo r=xM r - 2 ^ (fS r - 1):=by unfold xLo;rw [hs];rfl
  have ar:xHi r=xM r+2 ^ (fS r - 1):=rfl;have bn:bits .and .i64 (rM r:Int) 1=(o:Int):=by
   have:=D6 (x:=rM r) (y:=1) (by omega) (by omega);rw [and_1,<-ho] at this;exact this
  have m:=log10P_any ((rK r:Int) - 1074) (by omega) (by omega);by_cases ao:fS r=11
  ·have h2:(2:Nat) ^ (11 - 1)=1024:=by decide
   have h3:(2:Nat) ^ 11=2048:=by decide
   rw [ao] at aq ar ab;have bl:(xM r:Int) - 1024=(xLo r:Int):=by omega
   have bm:(xM r:Int)+1024=(xHi r:Int):=by omega
   have hM:(xM r:Int) / 2048=(rM r:Int):=by omega
   have bo:e+11=(rK r:Int) - 1074:=by omega
   have bw:-1085<=e:=by omega
   generalize l10p2 ((rK r:Int) - 1074)=L at *;rw [<-he];replace m:=Hd m;replace ab:=Hd ab;replace aw:=Hd aw;replace hS:=Hd hS;replace hp:=Hd hp;replace hl:=Hd hl;replace ho:=Hd ho;replace bd:=Hd bd;replace bc:=Hd bc;by_cases ac:xM r=9223372036854775808
   ·have bq:rM r=4503599627370496:=by omega
    have bj:rK r=0:=by
     rw [Do,Bool.and_eq_false_iff,decide_eq_false_iff_not,decide_eq_false_iff_not] at hs;omega
    have bp:¬-1085<e:=by omega
    have bh:((xM r:Int) == 9223372036854775808)=true:=by rw [ac];rfl
    replace he:=Hd he;clear bb s2 s3 s4 hs l9 m9 g9 ao ac h2 h3 aq ar bq bj
    go_enter Tryz.func149,Tryz.ntmps149
    go_wp2_with fail
    refine (m.out _).mono ?_;rintro _ _ ⟨rfl,rfl⟩;go_wp2_with fail
    refine (a2.out _).mono ?_;rintro _ _ ⟨rfl,rfl⟩;go_wp2_with fail
    rw [<-hw1.out];refine (Cy ak.out ax.out ay.out az.out a4.out a3.out af.out.1 af.out.2 (by omega) (by omega) ap.1 ap.2).mono ?_;rintro _ w2 ⟨rfl,q⟩;have t:=Hd (am.out w2 q);have v:=Hd (al.out w2 q);clear q;go_wp2_with fail
    refine (Bv t.out h hr ag.out.1 ag.out.2).mono ?_;rw [hA0.out];rintro _ w3 ⟨rfl,z⟩;have f:=Hd (t.out.below z);have g:=Hd (v.out.trans (z.mono v.out.size));clear z t v;go_wp2_with fail
    refine (C8 uL nL _ (by omega) a6.out _).mono ?_;rintro _ _ ⟨rfl,rfl⟩;go_wp2_with fail
    refine (ceil_is nL mn (by omega) a5.out _).mono ?_;rintro _ _ ⟨rfl,rfl⟩;go_wp2_with fail
    refine (Bv f.out h hr ah.out.1 ah.out.2).mono ?_;rw [hA1.out];rintro _ w4 ⟨rfl,aa⟩;have s:=Hd (f.out.below aa);have b:=Hd (g.out.trans (aa.mono g.out.size));clear aa f g;go_wp2_with fail
    refine (C8 uH nH _ (by omega) a7.out _).mono ?_;rintro _ _ ⟨rfl,rfl⟩;go_wp2_with fail
    refine (floor_is nH mx (by omega) aj.out _).mono ?_;rintro _ _ ⟨rfl,rfl⟩;obtain ⟨d1,hd1⟩:∃d,d=mx / 10:=⟨_,rfl⟩;have bi:(mx:Int).tdiv 10=(d1:Int):=by rw [Int.tdiv_eq_ediv_of_nonneg (by omega)];omega
    have a8:(mx:Int) / 10=(d1:Int):=by omega
    have a9:d1 * 10<=mx:=by omega
    have ba:mx<4700000000000000000:=by have:=aj.out;omega
    have a:=an.out;rw [<-hd1] at a;replace hd1:=Hd hd1;by_cases hA:mn<=d1 * 10
    ·rw [if_pos hA] at a
     have au:(mn:Int)<=(d1:Int) * 10:=by omega
     have j:-(p - 1)=1 - p:=by omega
     replace a:=Hd a;replace j:=Hd j;go_wp2
     go_ret2
     refine ⟨?_,b.out⟩;rw [a.out,<-j.out];try rfl
    ·rw [if_neg hA] at a
     have au:¬(mn:Int)<=(d1:Int) * 10:=by omega
     by_cases hB:mn<mx
     ·rw [if_pos hB] at a
      have av:(mn:Int)<(mx:Int):=by omega
      obtain ⟨rc,hrc⟩:∃c,rndU uM=c:=⟨_,rfl⟩;rw [hrc] at a;replace a:=Hd a;replace hrc:=Hd hrc;go_wp2_with fail
      refine (Bv s.out h hr ai.out.1 ai.out.2).mono ?_;rw [hA2.out];rintro _ w5 ⟨rfl,ae⟩;have ad:=Hd (b.out.trans (ae.mono b.out.size));clear ae s b;go_wp2_with fail
      refine (Ey uM rc (by omega) hrc.out _).mono ?_;rintro _ _ ⟨rfl,rfl⟩;go_wp2
      go_ret2
      refine ⟨?_,ad.out⟩;rw [a.out];try rfl
     ·rw [if_neg hB] at a
      have av:¬(mn:Int)<(mx:Int):=by omega
      replace a:=Hd a;go_wp2
      go_ret2
      refine ⟨?_,b.out⟩;rw [a.out];try rfl
   ·have bh:((xM r:Int) == 9223372036854775808)=false:=by simp;omega
    replace he:=Hd he;clear bb s2 s3 s4 hs l9 m9 g9 ao ac h2 h3 aq ar
    go_enter Tryz.func149,Tryz.ntmps149
    go_wp2_with fail
    refine (m.out _).mono ?_;rintro _ _ ⟨rfl,rfl⟩;go_wp2_with fail
    refine (a2.out _).mono ?_;rintro _ _ ⟨rfl,rfl⟩;go_wp2_with fail
    rw [<-hw1.out];refine (Cy ak.out ax.out ay.out az.out a4.out a3.out af.out.1 af.out.2 (by omega) (by omega) ap.1 ap.2).mono ?_;rintro _ w2 ⟨rfl,q⟩;have t:=Hd (am.out w2 q);have v:=Hd (al.out w2 q);clear q;go_wp2_with fail
    refine (Bv t.out h hr ag.out.1 ag.out.2).mono ?_;rw [hA0.out];rintro _ w3 ⟨rfl,z⟩;have f:=Hd (t.out.below z);have g:=Hd (v.out.trans (z.mono v.out.size));clear z t v;go_wp2_with fail
    refine (C8 uL nL _ (by omega) a6.out _).mono ?_;rintro _ _ ⟨rfl,rfl⟩;go_wp2_with fail
    refine (ceil_is nL mn (by omega) a5.out _).mono ?_;rintro _ _ ⟨rfl,rfl⟩;go_wp2_with fail
    refine (Bv f.out h hr ah.out.1 ah.out.2).mono ?_;rw [hA1.out];rintro _ w4 ⟨rfl,aa⟩;have s:=Hd (f.out.below aa);have b:=Hd (g.out.trans (aa.mono g.out.size));clear aa f g;go_wp2_with fail
    refine (C8 uH nH _ (by omega) a7.out _).mono ?_;rintro _ _ ⟨rfl,rfl⟩;go_wp2_with fail
    refine (floor_is nH mx (by omega) aj.out _).mono ?_;rintro _ _ ⟨rfl,rfl⟩;obtain ⟨d1,hd1⟩:∃d,d=mx / 10:=⟨_,rfl⟩;have bi:(mx:Int).tdiv 10=(d1:Int):=by rw [Int.tdiv_eq_ediv_of_nonneg (by omega)];omega
    have a8:(mx:Int) / 10=(d1:Int):=by omega
    have a9:d1 * 10<=mx:=by omega
    have ba:mx<4700000000000000000:=by have:=aj.out;omega
    have a:=an.out;rw [<-hd1] at a;replace hd1:=Hd hd1;by_cases hA:mn<=d1 * 10
    ·rw [if_pos hA] at a
     have au:(mn:Int)<=(d1:Int) * 10:=by omega
     have j:-(p - 1)=1 - p:=by omega
     replace a:=Hd a;replace j:=Hd j;go_wp2
     go_ret2
     refine ⟨?_,b.out⟩;rw [a.out,<-j.out];try rfl
    ·rw [if_neg hA] at a
     have au:¬(mn:Int)<=(d1:Int) * 10:=by omega
     by_cases hB:mn<mx
     ·rw [if_pos hB] at a
      have av:(mn:Int)<(mx:Int):=by omega
      obtain ⟨rc,hrc⟩:∃c,rndU uM=c:=⟨_,rfl⟩;rw [hrc] at a;replace a:=Hd a;replace hrc:=Hd hrc;go_wp2_with fail
      refine (Bv s.out h hr ai.out.1 ai.out.2).mono ?_;rw [hA2.out];rintro _ w5 ⟨rfl,ae⟩;have ad:=Hd (b.out.trans (ae.mono b.out.size));clear ae s b;go_wp2_with fail
      refine (Ey uM rc (by omega) hrc.out _).mono ?_;rintro _ _ ⟨rfl,rfl⟩;go_wp2
      go_ret2
      refine ⟨?_,ad.out⟩;rw [a.out];try rfl
     ·rw [if_neg hB] at a
      have av:¬(mn:Int)<(mx:Int):=by omega
      replace a:=Hd a;go_wp2
      go_ret2
      refine ⟨?_,b.out⟩;rw [a.out];try rfl
  ·have bj:rK r=0:=by
    rcases Nat.eq_zero_or_pos (rK r) with h9 | h9
    ·exact h9
    ·exact absurd (s2 h9) ao
   obtain ⟨Z,hZ⟩:∃Z,Z=fS r:=⟨_,rfl⟩;rw [<-hZ] at aq ar ab s0 s1 ao he aw;obtain ⟨z1,hz1⟩:∃z1:Nat,Z=z1+1:=⟨Z - 1,by omega⟩;obtain ⟨T,hT⟩:∃T,T=2 ^ z1:=⟨_,rfl⟩;have hTi:(2:Int) ^ z1=(T:Int):=by rw [hT];simp
   have hT63:T<=4611686018427387904:=by
    have:2 ^ z1<=2 ^ 62:=Nat.pow_le_pow_right (by decide) (by omega);have e62:(2:Nat) ^ 62=4611686018427387904:=by decide
    omega
   rw [show Z - 1=z1 by omega,<-hT] at aq ar;have bl:(xM r:Int) - (T:Int)=(xLo r:Int):=by omega
   have bm:(xM r:Int)+(T:Int)=(xHi r:Int):=by omega
   have hM:(xM r:Int) / 2 ^ Z=(rM r:Int):=by
    have:xM r / 2 ^ Z=rM r:=by rw [ab];exact Nat.mul_div_cancel _ (Nat.two_pow_pos Z)
    rw [<-this];simp
   have hzz:11+(-1085 - e)=(Z:Int):=by omega
   have hz11:(Z:Int) - 1=(z1:Int):=by omega
   have bo:e+(Z:Int)=-1074:=by omega
   have bw:¬-1085<=e:=by omega
   have bp:¬-1085<e:=by omega
   rw [bj] at m bg;replace m:∀w,Calls Tryz.prog 144 #[.int .i64 (-1074)] w fun e w' => e=.returned (.int .i64 (l10p2 (-1074)))/\w' = w:=m;replace bg:-l10p2 (-1074)=p:=bg;generalize l10p2 (-1074)=L at *;rw [show ((rK r:Int) - 1074 - (fS r:Int))=e by rw [he,hZ]];replace m:=Hd m;replace he:=Hd he;replace ab:=Hd ab;replace aw:=Hd aw;replace hS:=Hd hS;replace hp:=Hd hp;replace hl:=Hd hl;replace ho:=Hd ho;replace bd:=Hd bd;replace bc:=Hd bc;clear bb s2 s3 s4 hs l9 m9 g9 ao aq ar hZ hT hz1 bj;by_cases ac:xM r=9223372036854775808
   ·have bh:((xM r:Int) == 9223372036854775808)=true:=by rw [ac];rfl
    clear ac
    go_enter Tryz.func149,Tryz.ntmps149
    go_wp2_with fail
    refine (m.out _).mono ?_;rintro _ _ ⟨rfl,rfl⟩;go_wp2_with fail
    refine (a2.out _).mono ?_;rintro _ _ ⟨rfl,rfl⟩;go_wp2_with fail
    rw [<-hw1.out];refine (Cy ak.out ax.out ay.out az.out a4.out a3.out af.out.1 af.out.2 (by omega) (by omega) ap.1 ap.2).mono ?_;rintro _ w2 ⟨rfl,q⟩;have t:=Hd (am.out w2 q);have v:=Hd (al.out w2 q);clear q;go_wp2_with fail
    refine (Bv t.out h hr ag.out.1 ag.out.2).mono ?_;rw [hA0.out];rintro _ w3 ⟨rfl,z⟩;have f:=Hd (t.out.below z);have g:=Hd (v.out.trans (z.mono v.out.size));clear z t v;go_wp2_with fail
    refine (C8 uL nL _ (by omega) a6.out _).mono ?_;rintro _ _ ⟨rfl,rfl⟩;go_wp2_with fail
    refine (ceil_is nL mn (by omega) a5.out _).mono ?_;rintro _ _ ⟨rfl,rfl⟩;go_wp2_with fail
    refine (Bv f.out h hr ah.out.1 ah.out.2).mono ?_;rw [hA1.out];rintro _ w4 ⟨rfl,aa⟩;have s:=Hd (f.out.below aa);have b:=Hd (g.out.trans (aa.mono g.out.size));clear aa f g;go_wp2_with fail
    refine (C8 uH nH _ (by omega) a7.out _).mono ?_;rintro _ _ ⟨rfl,rfl⟩;go_wp2_with fail
    refine (floor_is nH mx (by omega) aj.out _).mono ?_;rintro _ _ ⟨rfl,rfl⟩;obtain ⟨d1,hd1⟩:∃d,d=mx / 10:=⟨_,rfl⟩;have bi:(mx:Int).tdiv 10=(d1:Int):=by rw [Int.tdiv_eq_ediv_of_nonneg (by omega)];omega
    have a8:(mx:Int) / 10=(d1:Int):=by omega
    have a9:d1 * 10<=mx:=by omega
    have ba:mx<4700000000000000000:=by have:=aj.out;omega
    have a:=an.out;rw [<-hd1] at a;replace hd1:=Hd hd1;by_cases hA:mn<=d1 * 10
    ·rw [if_pos hA] at a
     have au:(mn:Int)<=(d1:Int) * 10:=by omega
     have j:-(p - 1)=1 - p:=by omega
     replace a:=Hd a;replace j:=Hd j;go_wp2
     go_ret2
     refine ⟨?_,b.out⟩;rw [a.out,<-j.out];try rfl
    ·rw [if_neg hA] at a
     have au:¬(mn:Int)<=(d1:Int) * 10:=by omega
     by_cases hB:mn<mx
     ·rw [if_pos hB] at a
      have av:(mn:Int)<(mx:Int):=by omega
      obtain ⟨rc,hrc⟩:∃c,rndU uM=c:=⟨_,rfl⟩;rw [hrc] at a;replace a:=Hd a;replace hrc:=Hd hrc;go_wp2_with fail
      refine (Bv s.out h hr ai.out.1 ai.out.2).mono ?_;rw [hA2.out];rintro _ w5 ⟨rfl,ae⟩;have ad:=Hd (b.out.trans (ae.mono b.out.size));clear ae s b;go_wp2_with fail
      refine (Ey uM rc (by omega) hrc.out _).mono ?_;rintro _ _ ⟨rfl,rfl⟩;go_wp2
      go_ret2
      refine ⟨?_,ad.out⟩;rw [a.out];try rfl
     ·rw [if_neg hB] at a
      have av:¬(mn:Int)<(mx:Int):=by omega
      replace a:=Hd a;go_wp2
      go_ret2
      refine ⟨?_,b.out⟩;rw [a.out];try rfl
   ·have bh:((xM r:Int) == 9223372036854775808)=false:=by simp;omega
    clear ac
    go_enter Tryz.func149,Tryz.ntmps149
    go_wp2_with fail
    refine (m.out _).mono ?_;rintro _ _ ⟨rfl,rfl⟩;go_wp2_with fail
    refine (a2.out _).mono ?_;rintro _ _ ⟨rfl,rfl⟩;go_wp2_with fail
    rw [<-hw1.out];refine (Cy ak.out ax.out ay.out az.out a4.out a3.out af.out.1 af.out.2 (by omega) (by omega) ap.1 ap.2).mono ?_;rintro _ w2 ⟨rfl,q⟩;have t:=Hd (am.out w2 q);have v:=Hd (al.out w2 q);clear q;go_wp2_with fail
    refine (Bv t.out h hr ag.out.1 ag.out.2).mono ?_;rw [hA0.out];rintro _ w3 ⟨rfl,z⟩;have f:=Hd (t.out.below z);have g:=Hd (v.out.trans (z.mono v.out.size));clear z t v;go_wp2_with fail
    refine (C8 uL nL _ (by omega) a6.out _).mono ?_;rintro _ _ ⟨rfl,rfl⟩;go_wp2_with fail
    refine (ceil_is nL mn (by omega) a5.out _).mono ?_;rintro _ _ ⟨rfl,rfl⟩;go_wp2_with fail
    refine (Bv f.out h hr ah.out.1 ah.out.2).mono ?_;rw [hA1.out];rintro _ w4 ⟨rfl,aa⟩;have s:=Hd (f.out.below aa);have b:=Hd (g.out.trans (aa.mono g.out.size));clear aa f g;go_wp2_with fail
    refine (C8 uH nH _ (by omega) a7.out _).mono ?_;rintro _ _ ⟨rfl,rfl⟩;go_wp2_with fail
    refine (floor_is nH mx (by omega) aj.out _).mono ?_;rintro _ _ ⟨rfl,rfl⟩;obtain ⟨d1,hd1⟩:∃d,d=mx / 10:=⟨_,rfl⟩;have bi:(mx:Int).tdiv 10=(d1:Int):=by rw [Int.tdiv_eq_ediv_of_nonneg (by omega)];omega
    have a8:(mx:Int) / 10=(d1:Int):=by omega
    have a9:d1 * 10<=mx:=by omega
    have ba:mx<4700000000000000000:=by have:=aj.out;omega
    have a:=an.out;rw [<-hd1] at a;replace hd1:=Hd hd1;by_cases hA:mn<=d1 * 10
    ·rw [if_pos hA] at a
     have au:(mn:Int)<=(d1:Int) * 10:=by omega
     have j:-(p - 1)=1 - p:=by omega
     replace a:=Hd a;replace j:=Hd j;go_wp2
     go_ret2
     refine ⟨?_,b.out⟩;rw [a.out,<-j.out];try rfl
    ·rw [if_neg hA] at a
     have au:¬(mn:Int)<=(d1:Int) * 10:=by omega
     by_cases hB:mn<mx
     ·rw [if_pos hB] at a
      have av:(mn:Int)<(mx:Int):=by omega
      obtain ⟨rc,hrc⟩:∃c,rndU uM=c:=⟨_,rfl⟩;rw [hrc] at a;replace a:=Hd a;replace hrc:=Hd hrc;go_wp2_with fail
      refine (Bv s.out h hr ai.out.1 ai.out.2).mono ?_;rw [hA2.out];rintro _ w5 ⟨rfl,ae⟩;have ad:=Hd (b.out.trans (ae.mono b.out.size));clear ae s b;go_wp2_with fail
      refine (Ey uM rc (by omega) hrc.out _).mono ?_;rintro _ _ ⟨rfl,rfl⟩;go_wp2
      go_ret2
      refine ⟨?_,ad.out⟩;rw [a.out];try rfl
     ·rw [if_neg hB] at a
      have av:¬(mn:Int)<(mx:Int):=by omega
      replace a:=Hd a;go_wp2
      go_ret2
      refine ⟨?_,b.out⟩;rw [a.out];try rfl
