/- Writing: that the digits of internal/strconv.shortFloat lie just where they are read back as the same number (no program in sight). -/
import Derived.Test.YteoalcmhdoopnaaGreatDoorJ47
namespace Go.Proofs.YteoalcmhdoopnaaGreatDoor
def Bk (x:Int):Int:=x * 78913 / 262144
def skewF (e:Int):Int:=(e * 631305 - 261663) / 2097152
def rM (r:Nat):Nat:=if r<4503599627370496 then r else 4503599627370496+r % 4503599627370496
def rK (r:Nat):Nat:=r / 4503599627370496 - 1
theorem A4 (r:Nat):r=rK r * 4503599627370496+rM r/\(rK r=0\/4503599627370496<=rM r)/\rM r<9007199254740992:=by
 unfold rK rM;split<;>omega
theorem E6 {r:Nat} (h:r<9218868437227405312):rK r<2046:=by unfold rK;omega
theorem Fi {r:Nat} (h:0<r):0<rM r:=by unfold rM;split<;>omega
theorem Cb (r:Nat):rv r=rM r * 2 ^ rK r:=by
 obtain ⟨h1,h2,h3⟩:=A4 r;have:=E3 h2 (Nat.le_of_lt h3);rw [<-h1] at this;exact this
def A9 (r:Nat):Bool:=decide (rM r=4503599627370496) && decide (1<=rK r)
def fS (r:Nat):Nat:=64 - Ag (rM r)
def fP (r:Nat):Int:=if A9 r then -skewF (rK r - 1074) else -Bk (rK r - 1074)
def fSc (r:Nat):Int:=fS r+1071 - lp10 (fP r) - rK r
def xM (r:Nat):Nat:=rM r * 2 ^ fS r
def xLo (r:Nat):Nat:=if A9 r then xM r - 512 else xM r - 2 ^ (fS r - 1)
def xHi (r:Nat):Nat:=xM r+2 ^ (fS r - 1)
def usc (r x:Nat):Nat:=Bd 18446744073709551616 x (hiT (fP r)) (loT (fP r)) (fSc r).toNat
def fMin (r:Nat):Nat:=(usc r (xLo r)+rM r % 2+3) / 4
def fMax (r:Nat):Nat:=(usc r (xHi r) - rM r % 2) / 4
def Ae (r:Nat):Nat × Int:=
 if fMin r<=fMax r / 10 * 10 then (fMax r / 10,1 - fP r)
 else if fMin r<fMax r then (rndU (usc r (xM r)),-fP r) else (fMin r,-fP r)
theorem mid_high (r:Nat):mid r=(2 * rM r+1) * 2 ^ rK r:=by
 obtain ⟨h1,h2,h3⟩:=A4 r;have h4:=E3 (k:=rK r) (m:=rM r+1) (by omega) (by omega);rw [<-Nat.add_assoc,<-h1] at h4;unfold mid;rw [h4,Cb,<-Nat.add_mul];congr 1;omega
theorem mid_low {r:Nat} (h:0<r) (hs:A9 r=false):mid (r - 1)=(2 * rM r - 1) * 2 ^ rK r:=by
 obtain ⟨h1,h2,h3⟩:=A4 r;have hM:=Fi h;rw [A9,Bool.and_eq_false_iff,decide_eq_false_iff_not,decide_eq_false_iff_not] at hs;have h4:=E3 (k:=rK r) (m:=rM r - 1) (by omega) (by omega);rw [show rK r * 4503599627370496+(rM r - 1)=r - 1 by omega] at h4;unfold mid;rw [show r - 1+1=r by omega,h4,Cb r,<-Nat.add_mul];congr 1;omega
theorem mid_skew {r:Nat} (hs:A9 r=true):mid (r - 1) * 2=(4 * rM r - 1) * 2 ^ rK r:=by
 obtain ⟨h1,h2,h3⟩:=A4 r;rw [A9,Bool.and_eq_true,decide_eq_true_eq,decide_eq_true_eq] at hs;obtain ⟨hm,hk⟩:=hs;obtain ⟨j,hj⟩:∃j,rK r=j+1:=⟨rK r - 1,by omega⟩;have h4:=E3 (k:=j) (m:=9007199254740991) (by omega) (by omega);rw [hj,hm] at h1;rw [show j * 4503599627370496+9007199254740991=r - 1 by omega] at h4;unfold mid;rw [show r - 1+1=r by omega,h4,Cb r,hm,hj,Nat.pow_succ];have:0<2 ^ j:=Nat.two_pow_pos j;generalize 2 ^ j=t at *;omega
theorem Ba {r:Nat} (h:0<r):11<=fS r/\fS r<=63/\(1<=rK r->fS r=11)/\9223372036854775808<=xM r/\xM r+2 ^ fS r<=18446744073709551616:=by
 obtain ⟨h1,h2,h3⟩:=A4 r;have hM:=Fi h;obtain ⟨a,b,c⟩:=Dx hM;have hl:Ag (rM r)<=53:=by
   unfold Ag;rw [if_neg (by omega)];have:=(Nat.log2_lt (n:=rM r) (k:=53) (by omega)).2 h3;omega
 obtain ⟨n0,n1⟩:=norm64 hM (by omega);refine ⟨by unfold fS;omega,by unfold fS;omega,?_,n0,?_⟩
 · intro hk
   have:¬Ag (rM r)<53:=by
     intro h9;have:2 ^ Ag (rM r)<=2 ^ 52:=Nat.pow_le_pow_right (by decide) (by omega);have:(2:Nat) ^ 52=4503599627370496:=by decide
     omega
   unfold fS;omega
 · have:(rM r+1) * 2 ^ fS r<=2 ^ Ag (rM r) * 2 ^ fS r:=Nat.mul_le_mul_right _ b
   rw [<-Nat.pow_add,show Ag (rM r)+fS r=64 by unfold fS;omega,Nat.add_mul,Nat.one_mul] at this;exact this
theorem Du {s:Nat} (h:11<=s):2 ^ s=2 * 2 ^ (s - 1)/\2 ^ (s - 1)=1024 * 2 ^ (s - 11):=by
 refine ⟨?_,?_⟩
 · rw [<-Nat.pow_succ'];congr 1;omega
 · rw [show (1024:Nat)=2 ^ 10 by decide,<-Nat.pow_add];congr 1;omega
theorem Fa {r:Nat} (h:0<r):(4611686018427387904<=xLo r/\xLo r<18446744073709551616/\xLo r % 512=0)/\(4611686018427387904<=xM r/\xM r<18446744073709551616/\xM r % 512=0) /\
   (4611686018427387904<=xHi r/\xHi r<18446744073709551616/\xHi r % 512=0):=by
 obtain ⟨s0,s1,s2,s3,s4⟩:=Ba h
 obtain ⟨p0,p1⟩:=Du s0
 have e1:xM r=2048 * (rM r * 2 ^ (fS r - 11)):=by
   unfold xM;rw [p0,p1];generalize 2 ^ (fS r - 11)=v;rw [show 2 * (1024 * v)=2048 * v by omega,Nat.mul_left_comm]
 have l1:2 ^ (fS r - 1)<=2 ^ 62:=Nat.pow_le_pow_right (by decide) (by omega)
 have e62:(2:Nat) ^ 62=4611686018427387904:=by decide
 have hp:=Nat.two_pow_pos (fS r - 11)
 unfold xLo xHi
 generalize rM r * 2 ^ (fS r - 11)=w at *
 generalize 2 ^ (fS r - 1)=t at *
 generalize 2 ^ (fS r - 11)=v at *
 generalize 2 ^ fS r=u at *
 split<;>omega
theorem skew_lin (t:Nat):(4503599627370496 * 2048 - 512) * t=(4 * 4503599627370496 - 1) * t * 512:=by omega
theorem xLo_mid {r:Nat} (h:0<r):xLo r * 2 ^ rK r=mid (r - 1) * 2 ^ (fS r - 1):=by
 obtain ⟨s0,s1,s2,s3,s4⟩:=Ba h;obtain ⟨p0,p1⟩:=Du s0;have hM:=Fi h;unfold xLo;cases hs:A9 r with
 | false=>
   rw [mid_low h hs];simp only [Bool.false_eq_true,if_false];have e:xM r - 2 ^ (fS r - 1)=(2 * rM r - 1) * 2 ^ (fS r - 1):=by
     unfold xM;rw [p0,Nat.sub_mul,Nat.one_mul,Nat.mul_comm 2 (rM r),Nat.mul_assoc]
   rw [e,Nat.mul_right_comm]
 | true=>
   have h2:=mid_skew hs;rw [A9,Bool.and_eq_true,decide_eq_true_eq,decide_eq_true_eq] at hs;simp only [if_true];have h3:=s2 hs.2;have h4:xM r=4503599627370496 * 2048:=by unfold xM;rw [h3,hs.1]
   have h5:(2:Nat) ^ (11 - 1)=2 * 512:=by decide
   rw [h4,h3,h5,<-Nat.mul_assoc,h2,hs.1];exact skew_lin _
theorem xHi_mid {r:Nat} (h:0<r):xHi r * 2 ^ rK r=mid r * 2 ^ (fS r - 1):=by
 obtain ⟨s0,s1,s2,s3,s4⟩:=Ba h;obtain ⟨p0,p1⟩:=Du s0;rw [mid_high];unfold xHi xM;rw [p0,<-Nat.mul_assoc,Nat.mul_comm (rM r) 2,Nat.mul_right_comm (2 * rM r+1),Nat.add_mul (2 * rM r) 1,Nat.one_mul]
def allN:Nat->(Nat->Bool)->Bool
 | 0,_=>true
 | n+1,f=>f n && allN n f
theorem Bq {f:Nat->Bool}:∀{n:Nat},allN n f=true->∀k,k<n->f k=true
 | 0,_,k,hk=>by omega
 | n+1,h,k,hk=>by
   rw [allN,Bool.and_eq_true] at h;rcases Nat.eq_or_lt_of_le (Nat.le_of_lt_succ hk) with h1 | h1
   · rw [h1];exact h.1
   · exact Bq h.2 k h1
def rngOk (k:Nat) (p:Int):Bool:=decide (-348<=p) && decide (p<=347) && decide (5<=1082 - lp10 p - k) && decide (1082 - lp10 p - k<=8)
theorem rng_l:allN 2046 (fun k=>rngOk k (-Bk (k - 1074)))=true:=by decide +kernel
theorem rng_s:allN 2046 (fun k=>decide (k=0) || rngOk k (-skewF (k - 1074)))=true:=by decide +kernel
theorem Cf {r:Nat} (h:0<r) (hr:r<9218868437227405312):-348<=fP r/\fP r<=347/\4<=fSc r/\fSc r<64:=by
 obtain ⟨s0,s1,s2,_,_⟩:=Ba h;have hk:=E6 hr;unfold fSc;cases hs:A9 r with
 | false=>
   have e:fP r=-Bk (rK r - 1074):=by unfold fP;rw [hs];rfl
   have:=Bq rng_l _ hk;rw [<-e] at this;simp only [rngOk,Bool.and_eq_true,decide_eq_true_eq] at this;obtain ⟨⟨⟨h1,h2⟩,h3⟩,h4⟩:=this;rcases Nat.eq_zero_or_pos (rK r) with h0 | h0
   · have e3:fP r=324:=by rw [e,h0];decide
     have e2:lp10 324=1076:=by decide
     rw [e3,e2];omega
   · have:=s2 h0
     omega
 | true=>
   have hs' := hs;rw [A9,Bool.and_eq_true,decide_eq_true_eq,decide_eq_true_eq] at hs';have e:fP r=-skewF (rK r - 1074):=by unfold fP;rw [hs];rfl
   have:=Bq rng_s _ hk;rw [<-e] at this;simp only [rngOk,Bool.or_eq_true,Bool.and_eq_true,decide_eq_true_eq] at this;have:=s2 hs'.2;omega
theorem cmp_scaled {E y A m c:Nat} (hE:0<E) (hA:0<A) (q:4 * E * m=y * A):(y<=4 * c * E ↔ m<=c * A)/\(y<4 * c * E ↔ m<c * A)/\(4 * c * E<=y ↔ c * A<=m)/\(4 * c * E<y ↔ c * A<m):=by
 have hE4:0<4 * E:=by omega
 have e:4 * c * E * A=4 * E * (c * A):=by rw [Nat.mul_right_comm 4 c E,Nat.mul_assoc (4 * E)]
 have l1:y<4 * c * E ↔ m<c * A:=by
   constructor
   · intro h
     refine Nat.lt_of_mul_lt_mul_left (a:=4 * E) ?_;rw [q,<-e];exact Nat.mul_lt_mul_of_pos_right h hA
   · intro h
     refine Nat.lt_of_mul_lt_mul_right (a:=A) ?_;rw [<-q,e];exact Nat.mul_lt_mul_of_pos_left h hE4
 have l2:4 * c * E<y ↔ c * A<m:=by
   constructor
   · intro h
     refine Nat.lt_of_mul_lt_mul_left (a:=4 * E) ?_;rw [q,<-e];exact Nat.mul_lt_mul_of_pos_right h hA
   · intro h
     refine Nat.lt_of_mul_lt_mul_right (a:=A) ?_;rw [<-q,e];exact Nat.mul_lt_mul_of_pos_left h hE4
 refine ⟨?_,l1,?_,l2⟩
 · rw [<-Nat.not_lt,l2,Nat.not_lt]
 · rw [<-Nat.not_lt,l1,Nat.not_lt]
theorem rel2 {x μ k s sc:Nat} {p:Int} (hs:1<=s) (hx:x * 2 ^ k=μ * 2 ^ (s - 1)) (hsc:(sc:Int)=s+1071 - lp10 p - k) :
   4 * (tD p * (18446744073709551616 * 18446744073709551616) * 2 ^ sc) * (μ * Ah (-p))=x * tN p * (10 ^ (-p).toNat * 2 ^ hp):=by
 refine Nat.eq_of_mul_eq_mul_right (Nat.two_pow_pos k) ?_
 unfold Ah tN tD
 rw [Int.neg_neg]
 have e:4 * 2 ^ (lp10 p - 127).toNat * 2 ^ 128 * 2 ^ sc * 2 ^ k=2 ^ (s - 1) * 2 ^ (127 - lp10 p).toNat * 2 ^ hp:=by
   rw [show (4:Nat)=2 ^ 2 by decide,<-Nat.pow_add,<-Nat.pow_add,<-Nat.pow_add,<-Nat.pow_add,<-Nat.pow_add,<-Nat.pow_add];congr 1;have:hp=1075:=rfl;omega
 rw [show (18446744073709551616 * 18446744073709551616:Nat)=2 ^ 128 by decide]
 generalize 10 ^ (-p).toNat=b at *
 generalize 10 ^ p.toNat=a at *
 generalize 2 ^ hp=t at *
 generalize 2 ^ (lp10 p - 127).toNat=u at *
 generalize 2 ^ (127 - lp10 p).toNat=y at *
 generalize 2 ^ 128=v at *
 generalize 2 ^ sc=S at *
 generalize 2 ^ (s - 1)=z at *
 generalize 2 ^ k=K at *
 have e1:4 * (b * u * v * S) * (μ * a) * K=μ * a * b * (4 * u * v * S * K):=by simp only [Nat.mul_assoc,Nat.mul_left_comm,Nat.mul_comm]
 have e2:x * (a * y) * (b * t) * K=x * K * (a * y * (b * t)):=by simp only [Nat.mul_assoc,Nat.mul_left_comm,Nat.mul_comm]
 rw [e1,e,e2,hx]
 simp only [Nat.mul_assoc,Nat.mul_left_comm,Nat.mul_comm]
theorem Fh {r x:Nat} (h:0<r) (hr:r<9218868437227405312) (hx0:4611686018427387904<=x) (hx1:x<18446744073709551616) (hx9:x % 512=0) :
   usc r x=unr (x * tN (fP r)) (tD (fP r) * (18446744073709551616 * 18446744073709551616) * 2 ^ (fSc r).toNat):=by
 obtain ⟨p0,p1,p2,p3⟩:=Cf h hr
 exact uscale_f p0 p1 (by omega) hx0 hx1 hx9
theorem Ep {r:Nat} (h:0<r) (hr:r<9218868437227405312) (c:Nat):InI r (decA c (-fP r)) (Ah (-fP r)) ↔ fMin r<=c/\c<=fMax r:=by
 obtain ⟨p0,p1,p2,p3⟩:=Cf h hr;obtain ⟨s0,s1,s2,_,_⟩:=Ba h;obtain ⟨⟨l0,l1,l9⟩,_,⟨g0,g1,g9⟩⟩:=Fa h;obtain ⟨sc,hsc⟩:∃n:Nat,fSc r=n:=⟨(fSc r).toNat,by omega⟩;have q0:=rel2 (sc:=sc) (p:=fP r) (by omega) (xLo_mid h) (by rw [<-hsc];rfl);have q1:=rel2 (sc:=sc) (p:=fP r) (by omega) (xHi_mid h) (by rw [<-hsc];rfl);have u0:=Fh h hr l0 l1 l9;have u1:=Fh h hr g0 g1 g9;rw [hsc,Int.toNat_natCast] at u0 u1;have hE:0<tD (fP r) * (18446744073709551616 * 18446744073709551616) * 2 ^ sc:=Nat.mul_pos (Nat.mul_pos (Cj _) (by decide)) (Nat.two_pow_pos sc);have hA:0<10 ^ (-fP r).toNat * 2 ^ hp:=Nat.mul_pos (Nat.pow_pos (by decide)) (Nat.two_pow_pos hp);have ho:rM r % 2<=1:=by omega
 have hpar:r % 2=rM r % 2:=by have:=(A4 r).1;omega
 have hmid:0<mid r:=by unfold mid;have:=Ej (show r<r+1 by omega);omega
 have hb:0<Ah (-fP r):=Nat.pow_pos (by decide);have hx1:0<xHi r * tN (fP r):=Nat.mul_pos (by omega) (tN_pos _);unfold fMin fMax;rw [u0,u1];have hdA:decA c (-fP r)=c * (10 ^ (-fP r).toNat * 2 ^ hp):=by unfold decA;rw [Nat.mul_assoc]
 rw [hdA];generalize tD (fP r) * (18446744073709551616 * 18446744073709551616) * 2 ^ sc=E at *;generalize xLo r * tN (fP r)=y0 at *;generalize xHi r * tN (fP r)=y1 at *;generalize 10 ^ (-fP r).toNat * 2 ^ hp=A at *;generalize Ah (-fP r)=b at *;obtain ⟨k0,k1,_,_⟩:=cmp_scaled (c:=c) hE hA q0;obtain ⟨_,_,k2,k3⟩:=cmp_scaled (c:=c) hE hA q1;have hu1:1<=unr y1 E:=by
   rcases Nat.eq_zero_or_pos (unr y1 E) with h9 | h9
   · have:=(Ct (y:=y1) hE).1 (by rw [h9])
     rw [h9] at this;omega
   · exact h9
 rw [ceil_spec hE ho,floor_spec hE ho hu1];rw [show InI r (c * A) b ↔ (r=0\/mid (r - 1) * b<c * A\/(mid (r - 1) * b=c * A/\r % 2=0))/\(c * A<mid r * b\/(c * A=mid r * b/\r % 2=0)) from ⟨fun h=>⟨h.low,h.high⟩,fun h=>⟨h.1,h.2⟩⟩];generalize 4 * c * E=z at *;generalize c * A=v at *;generalize mid (r - 1) * b=m0 at *;generalize mid r * b=m1 at *;constructor
 · intro ⟨a1,a2⟩
   omega
 · intro ⟨a1,a2⟩
   constructor
   · omega
   · omega
def wOk (k:Nat) (p:Int):Bool:=decide (tD p * 2 ^ (1212 - lp10 p - k).toNat<=2048 * tN p) && decide (2048 * tN p<10 * (tD p * 2 ^ (1212 - lp10 p - k).toNat))
theorem w_l:allN 2046 (fun k=>wOk k (-Bk (k - 1074)))=true:=by decide +kernel
theorem w_spec {r:Nat} (h:0<r) (hr:r<9218868437227405312) (hs:A9 r=false) :
   4 * (tD (fP r) * (18446744073709551616 * 18446744073709551616) * 2 ^ (fSc r).toNat)<=2 ^ fS r * tN (fP r) /\
   2 ^ fS r * tN (fP r)<40 * (tD (fP r) * (18446744073709551616 * 18446744073709551616) * 2 ^ (fSc r).toNat):=by
 obtain ⟨s0,s1,s2,_,_⟩:=Ba h
 obtain ⟨p0,p1,p2,p3⟩:=Cf h hr
 have hw:=Bq w_l _ (E6 hr)
 have e:fP r=-Bk (rK r - 1074):=by unfold fP;rw [hs];rfl
 rw [<-e] at hw
 simp only [wOk,Bool.and_eq_true,decide_eq_true_eq] at hw
 obtain ⟨w0,w1⟩:=hw
 have hsc:4 * (tD (fP r) * (18446744073709551616 * 18446744073709551616) * 2 ^ (fSc r).toNat)=tD (fP r) * 2 ^ (1212 - lp10 (fP r) - rK r).toNat * 2 ^ (fS r - 11):=by
   rw [show (18446744073709551616 * 18446744073709551616:Nat)=2 ^ 128 by decide,Nat.mul_assoc (tD (fP r)),Nat.mul_assoc (tD (fP r)),Nat.mul_left_comm,show (4:Nat)=2 ^ 2 by decide,<-Nat.pow_add,<-Nat.pow_add,<-Nat.pow_add];congr 2;unfold fSc at *;rcases Nat.eq_zero_or_pos (rK r) with h0 | h0
   · omega
   · have:=s2 h0;omega
 have hS:2 ^ fS r=2048 * 2 ^ (fS r - 11):=by rw [show (2048:Nat)=2 ^ 11 by decide,<-Nat.pow_add];congr 1;omega
 have hT:=Nat.two_pow_pos (fS r - 11)
 rw [hS,show 40 * (tD (fP r) * (18446744073709551616 * 18446744073709551616) * 2 ^ (fSc r).toNat)=10 * (4 * (tD (fP r) * (18446744073709551616 * 18446744073709551616) * 2 ^ (fSc r).toNat)) by rw [<-Nat.mul_assoc 10 4],hsc]
 generalize tD (fP r) * 2 ^ (1212 - lp10 (fP r) - rK r).toNat=D at *
 generalize tN (fP r)=N at *
 generalize 2 ^ (fS r - 11)=T at *
 constructor
 · rw [Nat.mul_right_comm];exact Nat.mul_le_mul_right _ w0
 · rw [Nat.mul_right_comm,<-Nat.mul_assoc];exact Nat.mul_lt_mul_of_pos_right w1 hT
theorem near_in {r:Nat} (h:0<r) (hr:r<9218868437227405312) (hs:A9 r=false):fMin r<=rndU (usc r (xM r))/\rndU (usc r (xM r))<=fMax r:=by
 obtain ⟨s0,s1,s2,_,_⟩:=Ba h;obtain ⟨⟨l0,l1,l9⟩,⟨m0,m1,m9⟩,⟨g0,g1,g9⟩⟩:=Fa h;obtain ⟨w0,w1⟩:=w_spec h hr hs;have hE:0<tD (fP r) * (18446744073709551616 * 18446744073709551616) * 2 ^ (fSc r).toNat:=Nat.mul_pos (Nat.mul_pos (Cj _) (by decide)) (Nat.two_pow_pos _);have hx1:0<xHi r * tN (fP r):=Nat.mul_pos (by omega) (tN_pos _);have eM:xM r * tN (fP r)=rM r * (2 ^ fS r * tN (fP r)):=by unfold xM;rw [Nat.mul_assoc]
 obtain ⟨p0,_⟩:=Du s0;have eL:xLo r * tN (fP r)+2 ^ (fS r - 1) * tN (fP r)=xM r * tN (fP r):=by
   rw [<-Nat.add_mul];congr 1;have:xLo r=xM r - 2 ^ (fS r - 1):=by unfold xLo;rw [hs];rfl
   omega
 have eH:xHi r * tN (fP r)=xM r * tN (fP r)+2 ^ (fS r - 1) * tN (fP r):=by rw [<-Nat.add_mul];rfl
 have eW:2 ^ fS r * tN (fP r)=2 * (2 ^ (fS r - 1) * tN (fP r)):=by rw [p0,Nat.mul_assoc]
 have ho:rM r % 2<=1:=by omega
 unfold fMin fMax;rw [Fh h hr l0 l1 l9,Fh h hr g0 g1 g9,Fh h hr m0 m1 m9];generalize tD (fP r) * (18446744073709551616 * 18446744073709551616) * 2 ^ (fSc r).toNat=E at *;generalize xLo r * tN (fP r)=y0 at *;generalize xHi r * tN (fP r)=y1 at *;generalize xM r * tN (fP r)=y at *;generalize 2 ^ (fS r - 1) * tN (fP r)=g at *;generalize 2 ^ fS r * tN (fP r)=W at *;have hu1:1<=unr y1 E:=by
   rcases Nat.eq_zero_or_pos (unr y1 E) with h9 | h9
   · have:=(Ct (y:=y1) hE).1 (by rw [h9])
     rw [h9] at this;omega
   · exact h9
 rw [ceil_spec hE ho,floor_spec hE ho hu1];obtain ⟨r0,r1,r2⟩:=Er (y:=y) hE;generalize rndU (unr y E)=c at *;have ec:(4 * c+2) * E=4 * c * E+2 * E:=Nat.add_mul _ _ _;rcases Nat.eq_or_lt_of_le w0 with hw | hw
 · -- just one unit wide: then the number itself is whole
   rw [<-hw,Nat.mul_left_comm,<-Nat.mul_assoc] at eM;have hc:c=rM r:=by
     have a1:rM r<=c:=by
       rcases Nat.lt_or_ge c (rM r) with h9 | h9
       · have:(4 * c+4) * E<=4 * rM r * E:=Nat.mul_le_mul_right _ (by omega)
         rw [Nat.add_mul] at this;omega
       · exact h9
     have a2:c<=rM r:=by
       rcases Nat.lt_or_ge (rM r) c with h9 | h9
       · have:(4 * rM r+4) * E<=4 * c * E:=Nat.mul_le_mul_right _ (by omega)
         rw [Nat.add_mul] at this;omega
       · exact h9
     omega
   subst hc;omega
 · omega
def inIB (r a b:Nat):Bool:=(decide (r=0) || decide (mid (r - 1) * b<a) || (decide (mid (r - 1) * b=a) && decide (r % 2=0))) && (decide (a<mid r * b) || (decide (a=mid r * b) && decide (r % 2=0)))
theorem inIB_ok {r a b:Nat} (h:inIB r a b=true):InI r a b:=by
 simp only [inIB,Bool.and_eq_true,Bool.or_eq_true,decide_eq_true_eq] at h;exact ⟨by omega,by omega⟩
theorem skew_ok:allN 2045 (fun j=>inIB ((j+2) * 4503599627370496) (decA (Ae ((j+2) * 4503599627370496)).1 (Ae ((j+2) * 4503599627370496)).2) (Ah (Ae ((j+2) * 4503599627370496)).2))=true:=by decide +kernel
theorem decA_ten (d:Nat) (p:Int) (r:Nat):InI r (decA (d * 10) p) (Ah p) ↔ InI r (decA d (1+p)) (Ah (1+p)):=by
 unfold decA Ah;rcases Int.lt_or_le p 0 with h | h
 · -- a tenth less below
   rw [show p.toNat=0 by omega,show (1+p).toNat=0 by omega,show (-p).toNat=(-(1+p)).toNat+1 by omega,Nat.pow_succ,Nat.pow_zero,Nat.mul_one,Nat.mul_one,Nat.mul_right_comm];exact InI.scale (by decide)
 · rw [show (-p).toNat=0 by omega,show (-(1+p)).toNat=0 by omega,show (1+p).toNat=p.toNat+1 by omega,Nat.pow_succ,Nat.mul_comm (10 ^ p.toNat) 10,Nat.mul_assoc d 10]
theorem short_ok {r:Nat} (h:0<r) (hr:r<9218868437227405312):InI r (decA (Ae r).1 (Ae r).2) (Ah (Ae r).2):=by
 cases hs:A9 r with
 | true=>
   have hs' := hs;rw [A9,Bool.and_eq_true,decide_eq_true_eq,decide_eq_true_eq] at hs';have h1:=(A4 r).1;have hk:=E6 hr;obtain ⟨j,hj⟩:∃j,rK r=j+1:=⟨rK r - 1,by omega⟩;have hr' : r=(j+2) * 4503599627370496:=by omega
   have:=Bq skew_ok j (by omega);rw [<-hr'] at this;exact inIB_ok this
 | false=>
   obtain ⟨n0,n1⟩:=near_in h hr hs;unfold Ae;by_cases h1:fMin r<=fMax r / 10 * 10
   · rw [if_pos h1]
     show InI r (decA (fMax r / 10) (1 - fP r)) (Ah (1 - fP r));rw [Int.sub_eq_add_neg,<-decA_ten,Ep h hr];omega
   · rw [if_neg h1]
     by_cases h2:fMin r<fMax r
     · rw [if_pos h2]
       exact (Ep h hr _).2 ⟨n0,n1⟩
     · rw [if_neg h2]
       exact (Ep h hr _).2 ⟨Nat.le_refl _,by omega⟩
def dv (c:UInt8):Nat:=c.toNat - 48
def isD (c:UInt8):Bool:=decide (48<=c.toNat) && decide (c.toNat<=57)
def valD (l:List UInt8):Nat:=l.foldl (fun a c=>a * 10+dv c) 0
theorem foldl_val (l:List UInt8):∀a:Nat,l.foldl (fun a c=>a * 10+dv c) a=a * 10 ^ l.length+valD l:=by
 induction l with
 | nil=>intro a;simp [valD]
 | cons c l ih=>
   intro a;have e:valD (c :: l)=dv c * 10 ^ l.length+valD l:=by
     show l.foldl (fun a c=>a * 10+dv c) (0 * 10+dv c)=_;rw [ih,Nat.zero_mul,Nat.zero_add]
   rw [List.foldl_cons,ih,e,List.length_cons,Nat.pow_succ,Nat.add_mul,Nat.mul_assoc,Nat.mul_comm 10 (10 ^ l.length)];omega
theorem Bc (a b:List UInt8):valD (a++b)=valD a * 10 ^ b.length+valD b:=by
 rw [valD,List.foldl_append,foldl_val];rfl
theorem Gp (a:List UInt8) (c:UInt8):valD (a++[c])=valD a * 10+dv c:=by
 rw [Bc];simp [valD]
theorem Ar (c:UInt8) (l:List UInt8):valD (c :: l)=dv c * 10 ^ l.length+valD l:=by
 rw [valD,List.foldl_cons,foldl_val];simp
theorem D8 {c:UInt8} (h:isD c=true):dv c<=9:=by simp [isD] at h;unfold dv;omega
theorem Bw:∀{l:List UInt8},(∀c∈l,isD c=true)->valD l<10 ^ l.length
 | [],_=>by simp [valD]
 | c :: l,h=>by
   have h1:=Bw (l:=l) (fun x hx=>h x (List.mem_cons_of_mem _ hx));have h2:=D8 (h c (List.mem_cons_self ..));rw [Ar,List.length_cons,Nat.pow_succ];have:dv c * 10 ^ l.length<=9 * 10 ^ l.length:=Nat.mul_le_mul_right _ h2;omega
theorem Ch:∀{l:List UInt8},(∀c∈l,c=48)->valD l=0
 | [],_=>rfl
 | c :: l,h=>by
   rw [Ar,h c (List.mem_cons_self ..),Ch (l:=l) (fun x hx=>h x (List.mem_cons_of_mem _ hx))];simp [dv]
def Am (l:List UInt8):List UInt8:=l.dropWhile (· == 48)
theorem Ge {l:List UInt8} (h:Am l=[]):Am (l++[48])=[]:=by
 unfold Am at *;rw [List.dropWhile_append,h];rfl
theorem stripL_snoc {l:List UInt8} {c:UInt8} (h:c≠48\/Am l≠[]):Am (l++[c])=Am l++[c]:=by
 unfold Am at *;rw [List.dropWhile_append];by_cases h1:l.dropWhile (· == 48)=[]
 · rcases h with h | h
   · rw [h1]
     have:(c == 48)=false:=by simpa using h
     simp [List.dropWhile,this]
   · exact absurd h1 h
 · cases h2:l.dropWhile (· == 48) with
   | nil=>exact absurd h2 h1
   | cons a b=>simp
theorem B9 (l:List UInt8):(Am l).length<=l.length:=by
 unfold Am;exact (List.dropWhile_sublist _).length_le
theorem stripL_mem {l:List UInt8} {c:UInt8} (h:c∈Am l):c∈l:=(List.dropWhile_sublist _).subset h
theorem stripL_head {l:List UInt8} (h:Am l≠[]):∃c m,Am l=c :: m/\c≠48:=by
 cases h1:Am l with
 | nil=>exact absurd h1 h
 | cons c m=>
   refine ⟨c,m,rfl,fun e=>?_⟩;have:=List.head_dropWhile_not (p:=fun x:UInt8=>x == 48) (l:=l) (by unfold Am at h;exact h);unfold Am at h1;simp only [h1,List.head_cons] at this;rw [e] at this;simp at this
def ndF (l:List UInt8):Nat:=(Am l).length
def Aj (l:List UInt8):Nat:=valD ((Am l).take 19)
def Au (l:List UInt8):Bool:=((Am l).drop 19).any (· != 48)
theorem ndF_zero {l:List UInt8} (h:ndF l=0):ndF (l++[48])=0/\Aj (l++[48])=Aj l/\Au (l++[48])=Au l:=by
 have h1:Am l=[]:=List.length_eq_zero_iff.1 h;have h2:=Ge h1;unfold ndF Aj Au;rw [h1,h2];exact ⟨rfl,rfl,rfl⟩
theorem ndF_snoc {l:List UInt8} {c:UInt8} (h:c≠48\/ndF l≠0):ndF (l++[c])=ndF l+1 /\
   (ndF l<19->Aj (l++[c])=Aj l * 10+dv c/\Au (l++[c])=Au l) /\
   (19<=ndF l->Aj (l++[c])=Aj l/\Au (l++[c])=(Au l || c != 48)):=by
 have h1:Am (l++[c])=Am l++[c]:=stripL_snoc (h.imp id (fun h2 h3=>h2 (by unfold ndF;rw [h3];rfl)))
 unfold ndF Aj Au
 rw [h1]
 refine ⟨by simp,fun h2=>⟨?_,?_⟩,fun h2=>⟨?_,?_⟩⟩
 · rw [List.take_of_length_le (by simp;omega),List.take_of_length_le (by omega),Gp]
 · rw [List.drop_of_length_le (by simp;omega),List.drop_of_length_le (by omega)]
 · rw [List.take_append_of_le_length h2]
 · rw [List.drop_append_of_le_length h2,List.any_append];simp
theorem mantF_lt {l:List UInt8} (hd:∀c∈l,isD c=true):Aj l<10 ^ (min 19 (ndF l)):=by
 unfold Aj ndF;have:=Bw (l:=(Am l).take 19) (fun c hc=>hd c (stripL_mem (List.mem_of_mem_take hc)));rwa [List.length_take] at this
theorem E9 {l:List UInt8} (hd:∀c∈l,isD c=true):Aj l<10000000000000000000:=
 Nat.lt_of_lt_of_le (mantF_lt hd) (Nat.pow_le_pow_right (n:=10) (by decide) (Nat.min_le_left 19 _))
def capE (l:List UInt8):Nat:=l.foldl (fun e c=>if e<10000 then e * 10+dv c else e) 0
theorem Dd (l:List UInt8) (c:UInt8):capE (l++[c])=if capE l<10000 then capE l * 10+dv c else capE l:=by
 unfold capE;rw [List.foldl_append];rfl
theorem Ce {l:List UInt8} (hd:∀c∈l,isD c=true):capE l<100000:=by
 have key:∀(l:List UInt8),(∀c∈l,isD c=true)->∀a:Nat,a<100000->l.foldl (fun e c=>if e<10000 then e * 10+dv c else e) a<100000:=by
   intro l;induction l with
   | nil=>intro _ a h;exact h
   | cons c l ih=>
     intro h a ha;refine ih (fun x hx=>h x (List.mem_cons_of_mem _ hx)) _ ?_;have:=D8 (h c (List.mem_cons_self ..));show (if a<10000 then a * 10+dv c else a)<100000;split<;>omega
 exact key l hd 0 (by decide)
def Bi:List UInt8->Bool->List UInt8->Nat->Bool × List UInt8 × Nat × List UInt8
 | [],d,L,m=>(d,L,m,[])
 | c :: l,d,L,m=>if c.toNat=46 then (if d then (d,L,m,c :: l) else Bi l true L 0) else if isD c then Bi l d (L++[c]) (m+1) else (d,L,m,c :: l)
theorem Da:∀{l:List UInt8} {d:Bool} {L:List UInt8} {m:Nat} {d' : Bool} {L' : List UInt8} {m' : Nat} {r:List UInt8},Bi l d L m=(d', L', m', r)->∃p,l=p++r
 | [],d,L,m,d', L', m', r,h=>by
   simp only [Bi,Prod.mk.injEq] at h;exact ⟨[],by rw [<-h.2.2.2];rfl⟩
 | c :: l,d,L,m,d', L', m', r,h=>by
   rw [Bi] at h;split at h
   · split at h
     · simp only [Prod.mk.injEq] at h
       exact ⟨[],by rw [<-h.2.2.2];rfl⟩
     · obtain ⟨p,hp⟩:=Da h
       exact ⟨c :: p,by rw [hp];rfl⟩
   · split at h
     · obtain ⟨p,hp⟩:=Da h
       exact ⟨c :: p,by rw [hp];rfl⟩
     · simp only [Prod.mk.injEq] at h
       exact ⟨[],by rw [<-h.2.2.2];rfl⟩
theorem C8:∀{D:List UInt8} {l:List UInt8} {d:Bool} {L:List UInt8} {m:Nat},(∀c∈D,isD c=true)->Bi (D++l) d L m=Bi l d (L++D) (m+D.length)
 | [],l,d,L,m,_=>by simp
 | c :: D,l,d,L,m,h=>by
   have hc:=h c (List.mem_cons_self ..);have h46:c.toNat≠46:=fun e=>by simp [isD,e] at hc
   rw [List.cons_append,Bi,if_neg h46,if_pos hc,C8 (fun x hx=>h x (List.mem_cons_of_mem _ hx)),List.append_assoc,List.length_cons];congr 1;omega
theorem Cu:∀{l:List UInt8} {d:Bool} {L:List UInt8} {m:Nat} {d' : Bool} {L' : List UInt8} {m' : Nat} {r:List UInt8},Bi l d L m=(d', L', m', r)->L'.length<=L.length+l.length/\m' <= m+l.length
 | [],d,L,m,d', L', m', r,h=>by
   simp only [Bi,Prod.mk.injEq] at h;rw [<-h.2.1,<-h.2.2.1];simp
 | c :: l,d,L,m,d', L', m', r,h=>by
   rw [Bi] at h;split at h
   · split at h
     · simp only [Prod.mk.injEq] at h
       rw [<-h.2.1,<-h.2.2.1];simp
     · have:=Cu h
       simp only [List.length_cons];omega
   · split at h
     · have:=Cu h
       simp only [List.length_append,List.length_cons,List.length_nil] at this ⊢;omega
     · simp only [Prod.mk.injEq] at h
       rw [<-h.2.1,<-h.2.2.1];simp
def okC (c:UInt8):Prop:=isD c=true\/c.toNat=46\/c.toNat=101\/c.toNat=43\/c.toNat=45
theorem okC_low {c:UInt8} (h:okC c):c.toNat≠120/\c.toNat≠88/\c.toNat≠95/\c.toNat≠69:=by
 rcases h with h | h | h | h | h
 · simp [isD] at h;omega
 all_goals omega
inductive ExpAt:List UInt8->Int->Prop
 | none:ExpAt [] 0
 | bare {E:List UInt8}:E≠[]->(∀c∈E,isD c=true)->ExpAt (101 :: E) (capE E)
 | plus {E:List UInt8}:E≠[]->(∀c∈E,isD c=true)->ExpAt (101 :: 43 :: E) (capE E)
 | minus {E:List UInt8}:E≠[]->(∀c∈E,isD c=true)->ExpAt (101 :: 45 :: E) (-(capE E:Int))
structure FTxt (s:ByteArray) (neg:Bool) (d:Bool) (L:List UInt8) (m:Nat) (x:Int):Prop where
 form:∃c body rest,s.data.toList=(if neg then [45] else [])++c :: body/\isD c=true/\Bi (c :: body) false [] 0=(d,L,m,rest)/\ExpAt rest x/\(∀b∈c :: body,okC b)
 size:s.size<=1000
 ne:L≠[]
def expF (d:Bool) (L:List UInt8) (m:Nat) (x:Int):Int:=if Aj L=0 then 0 else (if d then (ndF L:Int) - m else ndF L)+x - (min 19 (ndF L):Nat)
end Go.Proofs.YteoalcmhdoopnaaGreatDoor
