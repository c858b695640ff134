/- Floats of 64 bits as natural numbers. -/
import Derived.Laws.FloatArith
import Derived.Test.YtagkgfniihiinaaGreatDoorJ37
set_option linter.all false
namespace Go.Proofs.YtagkgfniihiinaaGreatDoor
open Ieee
def nanC:Nat:=9221120237041090561
def nanF (n:Nat):Bool:=decide (9218868437227405312<n % 9223372036854775808)
def Cp (n:Nat):Nat:=if nanF n then nanC else n
def sv (n:Nat):Int:=if 9223372036854775808<=n then -((n - 9223372036854775808:Nat):Int) else n
def rv (r:Nat):Nat:=if r<4503599627370496 then r else (4503599627370496+r % 4503599627370496) * 2 ^ (r / 4503599627370496 - 1)
theorem rv_lt {r s:Nat} (h:r<s):rv r<rv s:=by
 unfold rv;by_cases h2:s<4503599627370496
 ·rw [if_pos (by omega),if_pos h2];exact h
 ·rw [if_neg h2]
  obtain ⟨q', hq'⟩:∃q', s / 4503599627370496=q' + 1:=⟨s / 4503599627370496 - 1,by omega⟩;have hp:=Nat.two_pow_pos q';by_cases h1:r<4503599627370496
  ·rw [if_pos h1,hq', Nat.add_sub_cancel]
   have:=Nat.le_mul_of_pos_right (4503599627370496+s % 4503599627370496) hp;omega
  ·rw [if_neg h1]
   obtain ⟨q,hq⟩:∃q,r / 4503599627370496=q+1:=⟨r / 4503599627370496 - 1,by omega⟩;rw [hq,hq', Nat.add_sub_cancel,Nat.add_sub_cancel];by_cases hqq:q=q'
   ·subst hqq
    exact Nat.mul_lt_mul_of_pos_right (by omega) hp
   ·have a:q<q' := by omega
    have h3:2 ^ (q+1)<=2 ^ q' := Nat.pow_le_pow_right (by omega) a;have h4:(4503599627370496+r % 4503599627370496) * 2 ^ q<9007199254740992 * 2 ^ q:=Nat.mul_lt_mul_of_pos_right (by omega) (Nat.two_pow_pos q);have h5:9007199254740992 * 2 ^ q=4503599627370496 * 2 ^ (q+1):=by rw [Nat.pow_succ];omega
    have h6:4503599627370496 * 2 ^ (q+1)<=4503599627370496 * 2 ^ q' := Nat.mul_le_mul_left _ h3;have h7:4503599627370496 * 2 ^ q' <= (4503599627370496+s % 4503599627370496) * 2 ^ q' := Nat.mul_le_mul_right _ (by omega);omega
theorem rv_cmp (r s:Nat):compare (rv r:Int) (rv s:Int)=compare (r:Int) (s:Int):=by
 rcases Nat.lt_trichotomy r s with h | h | h
 ·have:=rv_lt h
  rw [Int.compare_eq_lt.2 (by omega),Int.compare_eq_lt.2 (by omega)]
 ·subst h;simp
 ·have:=rv_lt h
  rw [Int.compare_eq_gt.2 (by omega),Int.compare_eq_gt.2 (by omega)]
theorem rv_pos {r:Nat}:rv r=0 ↔ r=0:=by
 constructor
 ·intro h
  rcases Nat.eq_zero_or_pos r with h1 | h1
  ·exact h1
  ·have:=rv_lt h1;omega
 ·rintro rfl;rfl
def sgn (s:Bool) (r:Nat):Int:=if s then -(r:Int) else r
theorem sgn_cmp (s t:Bool) (a b:Nat):compare (sgn s (rv a)) (sgn t (rv b))=compare (sgn s a) (sgn t b):=by
 have h0:=@rv_pos a;have h1:=@rv_pos b;rcases Nat.lt_trichotomy a b with h | h | h
 ·have:=rv_lt h
  cases s<;>cases t<;>simp only [sgn,Bool.false_eq_true,if_true,if_false]
  ·rw [Int.compare_eq_lt.2 (by omega),Int.compare_eq_lt.2 (by omega)]
  ·rw [Int.compare_eq_gt.2 (by omega),Int.compare_eq_gt.2 (by omega)]
  ·rw [Int.compare_eq_lt.2 (by omega),Int.compare_eq_lt.2 (by omega)]
  ·rw [Int.compare_eq_gt.2 (by omega),Int.compare_eq_gt.2 (by omega)]
 ·subst h
  rcases Nat.eq_zero_or_pos a with h2 | h2
  ·subst h2;cases s<;>cases t<;>rfl
  ·have h3:0<rv a:=by
    rcases Nat.eq_zero_or_pos (rv a) with h4 | h4
    ·rw [h0] at h4;omega
    ·exact h4
   cases s<;>cases t<;>simp only [sgn,Bool.false_eq_true,if_true,if_false]
   ·rw [Int.compare_eq_eq.2 rfl,Int.compare_eq_eq.2 rfl]
   ·rw [Int.compare_eq_gt.2 (by omega),Int.compare_eq_gt.2 (by omega)]
   ·rw [Int.compare_eq_lt.2 (by omega),Int.compare_eq_lt.2 (by omega)]
   ·rw [Int.compare_eq_eq.2 rfl,Int.compare_eq_eq.2 rfl]
 ·have:=rv_lt h
  cases s<;>cases t<;>simp only [sgn,Bool.false_eq_true,if_true,if_false]
  ·rw [Int.compare_eq_gt.2 (by omega),Int.compare_eq_gt.2 (by omega)]
  ·rw [Int.compare_eq_gt.2 (by omega),Int.compare_eq_gt.2 (by omega)]
  ·rw [Int.compare_eq_lt.2 (by omega),Int.compare_eq_lt.2 (by omega)]
  ·rw [Int.compare_eq_lt.2 (by omega),Int.compare_eq_lt.2 (by omega)]
theorem cmp_mul (a b:Int) {k:Int} (hk:0<k):compare (a * k) (b * k)=compare a b:=by
 rcases Int.lt_trichotomy a b with h | h | h
 ·rw [Int.compare_eq_lt.2 h,Int.compare_eq_lt.2 (Int.mul_lt_mul_of_pos_right h hk)]
 ·subst h;rw [Int.compare_eq_eq.2 rfl,Int.compare_eq_eq.2 rfl]
 ·rw [Int.compare_eq_gt.2 h,Int.compare_eq_gt.2 (Int.mul_lt_mul_of_pos_right h hk)]
def negF (n:Nat):Bool:=n / 9223372036854775808 % 2 == 1
theorem sv_sgn {n:Nat} (h:n<18446744073709551616):sv n=sgn (negF n) (n % 9223372036854775808):=by
 unfold sv sgn negF;by_cases h1:9223372036854775808<=n
 ·rw [if_pos h1,if_pos (by simp;omega)];omega
 ·rw [if_neg h1,if_neg (by simp;omega)];omega
theorem Fc:Ieee.double.leastPlace=-1074:=by decide
theorem inf_rung:Ieee.double.infRung=9218868437227405312:=by decide
theorem binade:Ieee.double.binade=4503599627370496:=by decide
theorem E9:Ieee.double.signWeight=9223372036854775808:=by decide
theorem C2 {n:Nat} (h:n % 9223372036854775808<9218868437227405312) :
  ∃m p,Ieee.double.read n=.number (negF n) m p/\(-1074:Int)<=p/\m * 2 ^ (p+1074).toNat=rv (n % 9223372036854775808):=by
 unfold Ieee.Format.read;simp only [E9,binade,inf_rung,Fc];by_cases h1:n % 9223372036854775808<4503599627370496
 ·rw [if_pos h1]
  refine ⟨_,_,rfl,by omega,?_⟩;rw [rv,if_pos h1];show _ * 2 ^ 0=_;rw [Nat.pow_zero,Nat.mul_one]
 ·rw [if_neg h1,if_pos h]
  refine ⟨_,_,rfl,by omega,?_⟩;rw [rv,if_neg h1];congr 2;omega
theorem read_inf {n:Nat} (h:n % 9223372036854775808=9218868437227405312):Ieee.double.read n=.infinity (negF n):=by
 unfold Ieee.Format.read;simp only [E9,binade,inf_rung,Fc];rw [if_neg (by omega),if_neg (by omega),if_pos h];rfl
theorem read_nan {n:Nat} (h:9218868437227405312<n % 9223372036854775808):∃s t,Ieee.double.read n=.nan s t:=by
 unfold Ieee.Format.read;simp only [E9,binade,inf_rung,Fc];rw [if_neg (by omega),if_neg (by omega),if_neg (by omega)];exact ⟨_,_,rfl⟩
theorem order_nan {x y:Nat} (h:nanF x=true\/nanF y=true):Ieee.double.order x y=none:=by
 unfold Ieee.Format.order;rcases h with h | h
 ·obtain ⟨s,t,e⟩:=read_nan (of_decide_eq_true h)
  rw [e];rfl
 ·obtain ⟨s,t,e⟩:=read_nan (of_decide_eq_true h)
  rw [e];cases Ieee.double.read x<;>rfl
theorem signed_mul (s:Bool) (m:Nat) (i b:Int) (hb:b<=i) (h0:-1074<=b):Ieee.signed s m (i - b).toNat * (2 ^ (b+1074).toNat:Nat)=sgn s (m * 2 ^ (i+1074).toNat):=by
 have e:(i+1074).toNat=(i - b).toNat+(b+1074).toNat:=by omega
 unfold Ieee.signed sgn;rw [e,Nat.pow_add,Nat.shiftLeft_eq,<-Nat.mul_assoc];cases s<;>simp only [Bool.false_eq_true,if_true,if_false]
 ·simp only [Int.natCast_mul]
 ·rw [Int.natCast_mul (m * 2 ^ (i - b).toNat),Int.neg_mul]
theorem Fv {x y:Nat} (hx:x<18446744073709551616) (hy:y<18446744073709551616) (nx:nanF x=false) (ny:nanF y=false):Ieee.double.order x y=some (compare (sv x) (sv y)):=by
 have nx:=of_decide_eq_false nx;have ny:=of_decide_eq_false ny;rw [sv_sgn hx,sv_sgn hy];unfold Ieee.Format.order;have lx:=Nat.mod_lt x (show 0<9223372036854775808 by decide);have ly:=Nat.mod_lt y (show 0<9223372036854775808 by decide);rcases Nat.lt_or_ge (x % 9223372036854775808) 9218868437227405312 with fx | fx
 ·obtain ⟨m,i,ex,hi,hm⟩:=C2 fx
  rw [ex];rcases Nat.lt_or_ge (y % 9223372036854775808) 9218868437227405312 with fy | fy
  ·obtain ⟨n,j,ey,hj,hn⟩:=C2 fy
   rw [ey];simp only [Ieee.Datum.order];rw [<-sgn_cmp,<-hm,<-hn,<-cmp_mul _ _ (k:=((2 ^ (min i j+1074).toNat:Nat):Int)) (by have:=Nat.two_pow_pos (min i j+1074).toNat;omega)];rw [signed_mul _ _ _ _ (by omega) (by omega),signed_mul _ _ _ _ (by omega) (by omega)]
  ·rw [read_inf (by omega:y % 9223372036854775808=9218868437227405312)]
   have:y % 9223372036854775808=9218868437227405312:=by omega
   rw [this];cases negF x<;>cases negF y<;>simp only [Ieee.Datum.order,sgn,Bool.false_eq_true,if_true,if_false]
   ·rw [Int.compare_eq_lt.2 (by omega)]
   ·rw [Int.compare_eq_gt.2 (by omega)]
   ·rw [Int.compare_eq_lt.2 (by omega)]
   ·rw [Int.compare_eq_gt.2 (by omega)]
 ·rw [read_inf (by omega:x % 9223372036854775808=9218868437227405312)]
  have e1:x % 9223372036854775808=9218868437227405312:=by omega
  rw [e1];rcases Nat.lt_or_ge (y % 9223372036854775808) 9218868437227405312 with fy | fy
  ·obtain ⟨n,j,ey,hj,hn⟩:=C2 fy
   rw [ey];cases negF x<;>cases negF y<;>simp only [Ieee.Datum.order,sgn,Bool.false_eq_true,if_true,if_false]
   ·rw [Int.compare_eq_gt.2 (by omega)]
   ·rw [Int.compare_eq_gt.2 (by omega)]
   ·rw [Int.compare_eq_lt.2 (by omega)]
   ·rw [Int.compare_eq_lt.2 (by omega)]
  ·rw [read_inf (by omega:y % 9223372036854775808=9218868437227405312)]
   have e2:y % 9223372036854775808=9218868437227405312:=by omega
   rw [e2];cases negF x<;>cases negF y<;>simp [Ieee.Datum.order,sgn]<;>rfl
theorem order_self {x:Nat} (hx:x<18446744073709551616):(Ieee.double.order x x == some .eq)=!(nanF x):=by
 cases h:nanF x with
 | true=>rw [order_nan (.inl h)];rfl
 | false=>rw [Fv hx hx h h,Int.compare_eq_eq.2 rfl];rfl
theorem canon_nan (n:Nat):Cp n=nanC ↔ nanF n=true:=by
 unfold Cp nanF nanC;by_cases h:9218868437227405312<n % 9223372036854775808
 ·simp [h]
 ·simp only [h,decide_false,Bool.false_eq_true,if_false,iff_false]
  rintro rfl;omega
end Go.Proofs.YtagkgfniihiinaaGreatDoor
namespace Go.Proofs.YtagkgfniihiinaaGreatDoor
def lp10 (p:Int):Int:=p * 108853 / 32768
def tN (p:Int):Nat:=10 ^ p.toNat * 2 ^ (127 - lp10 p).toNat
def tD (p:Int):Nat:=10 ^ (-p).toNat * 2 ^ (lp10 p - 127).toNat
def pmT (p:Int):Nat:=(tN p+tD p - 1) / tD p
def hiT (p:Int):Nat:=(pmT p+18446744073709551615) / 18446744073709551616
def loT (p:Int):Nat:=hiT p * 18446744073709551616 - pmT p
theorem tN_pos (p:Int):0<tN p:=Nat.mul_pos (Nat.pow_pos (by decide)) (Nat.two_pow_pos _)
theorem Eh (p:Int):0<tD p:=Nat.mul_pos (Nat.pow_pos (by decide)) (Nat.two_pow_pos _)
theorem pm_eq (p:Int):hiT p * 18446744073709551616 - loT p=pmT p:=by unfold loT hiT;omega
theorem lo_lt (p:Int):loT p<18446744073709551616:=by unfold loT hiT;omega
theorem pm_up (p:Int):tN p<=pmT p * tD p:=by
 have hD:=Eh p;have h:=Nat.div_add_mod (tN p+tD p - 1) (tD p);have h2:=Nat.mod_lt (tN p+tD p - 1) hD;unfold pmT;rw [Nat.mul_comm];generalize tD p * ((tN p+tD p - 1) / tD p)=z at *;omega
theorem pm_low (p:Int):(pmT p - 1) * tD p<tN p:=by
 have hD:=Eh p;have hN:=tN_pos p;have h:=Nat.div_mul_le_self (tN p+tD p - 1) (tD p);unfold pmT;rw [Nat.sub_mul,Nat.one_mul];generalize (tN p+tD p - 1) / tD p * tD p=z at *;omega
def okF (s j L:Nat) (p:Int) (c:Nat × Nat):Bool:=
 let A:=tN p
 let B:=tD p * 2 ^ (128+s - j)
 let p0:=c.1 * A / B
 let r0:=c.1 * A % B
 let p1:=(p0 * c.2+1) / c.1
 let r1:=p1 * B - c.2 * A
 let W:=18446744073709551616 * tD p / 2 ^ j+1
 let V:=(2 * 18446744073709551616 * tD p+2 ^ j - 1) / 2 ^ j
 decide (0<c.1) && decide (0<c.2) && decide (p1 * c.1=p0 * c.2+1) && decide (c.2 * A<=p1 * B) &&
   ((decide (r0=0) && decide (W<=r1) && decide (V<=r1)) || (decide (r1=0) && decide (W<=r0) && decide (V<=r0)) ||
     (decide (2 ^ (64 - j)<=c.1+c.2) && decide (W<=(L+c.1 - 1) / c.1 * r0) && decide (V<=(L+c.2 - 1) / c.2 * r1)))
def hiOk (p:Int):Bool:=decide (9223372036854775808<=hiT p) && decide (hiT p<18446744073709551616)
def allOk (f:Int->Nat × Nat->Bool):Nat->List (Nat × Nat)->Bool
 | _,[]=>true
 | i,c :: l=>f ((i:Int) - 348) c && allOk f (i+1) l
theorem allOk_at {f:Int->Nat × Nat->Bool}:∀{l:List (Nat × Nat)} {i:Nat},allOk f i l=true->∀n,n<l.length->∃c,f (((i+n:Nat):Int) - 348) c=true
 | [],_,_,n,hn=>by simp at hn
 | c :: l,i,h,n,hn=>by
  rw [allOk,Bool.and_eq_true] at h;cases n with
  | zero=>exact ⟨c,h.1⟩
  | succ n=>
   obtain ⟨d,hd⟩:=allOk_at h.2 n (by simpa using hn);refine ⟨d,?_⟩;rw [show i+(n+1)=i+1+n by omega];exact hd
theorem ceil_pos {L q:Nat} (hL:0<L) (hq:0<q):0<(L+q - 1) / q/\((L+q - 1) / q - 1) * q<L:=by
 have h1:0<(L+q - 1) / q:=Nat.div_pos (by omega) hq;refine ⟨h1,?_⟩;have h:=Nat.div_mul_le_self (L+q - 1) q;rw [Nat.sub_mul,Nat.one_mul];generalize (L+q - 1) / q * q=z at *;omega
theorem clear_of {s j L x:Nat} {p:Int} {c:Nat × Nat} (hok:okF s j L p c=true) (hL:0<L) (hx:L<=x) (hx2:x<2 ^ (64 - j)) (hj:j<=128+s) :
   Clear (2 ^ j * x * tN p) (tD p * (18446744073709551616 * 18446744073709551616) * 2 ^ s) (18446744073709551616 * tD p) (2 * 18446744073709551616 * tD p):=by
 have hE:tD p * (18446744073709551616 * 18446744073709551616) * 2 ^ s=2 ^ j * (tD p * 2 ^ (128+s - j)):=by
   rw [show (18446744073709551616 * 18446744073709551616:Nat)=2 ^ 128 by decide,Nat.mul_assoc,<-Nat.pow_add,Nat.mul_left_comm,<-Nat.pow_add];congr 2;omega
 rw [hE];unfold okF at hok;have d:=Eh p;have hBp:0<tD p * 2 ^ (128+s - j):=Nat.mul_pos d (Nat.two_pow_pos _);have hJ:=Nat.two_pow_pos j;generalize tN p=A at *;generalize tD p=D at *;generalize hBe:D * 2 ^ (128+s - j)=B at *;generalize 2 ^ j=J at *;generalize hQ:2 ^ (64 - j)=Q at *;obtain ⟨q0,q1⟩:=c;dsimp only at hok;have f0:=Nat.div_add_mod (q0 * A) B;generalize q0 * A / B=p0 at *;generalize q0 * A % B=r0 at *;generalize (p0 * q1+1) / q0=p1 at *;obtain ⟨r1,hr1⟩:∃r1,r1=p1 * B - q1 * A:=⟨_,rfl⟩;rw [<-hr1] at hok;have w0:=Nat.div_add_mod (18446744073709551616 * D) J;have w1:=Nat.mod_lt (18446744073709551616 * D) hJ;have v0:=Nat.div_add_mod (2 * 18446744073709551616 * D+J - 1) J;have v1:=Nat.mod_lt (2 * 18446744073709551616 * D+J - 1) hJ;generalize 18446744073709551616 * D / J=W at *;generalize (2 * 18446744073709551616 * D+J - 1) / J=V at *
 generalize (2 * 18446744073709551616 * D+J - 1) % J=v9 at *;generalize 18446744073709551616 * D % J=w9 at *;simp only [Bool.and_eq_true,Bool.or_eq_true,decide_eq_true_eq] at hok;obtain ⟨⟨⟨⟨c0,c1⟩,cd⟩,cu⟩,b⟩:=hok;have a : p1 * B=q1 * A+r1:=by
   generalize p1 * B=z at *;omega
 have i0:(q0:Int) * A - p0 * B=r0:=by
   have:((B * p0+r0:Nat):Int)=((q0 * A:Nat):Int):=by rw [f0]
   simp only [Int.natCast_add,Int.natCast_mul] at this;rw [Int.mul_comm (B:Int)] at this;omega
 have i1:(p1:Int) * B - q1 * A=r1:=by
   have:((p1 * B:Nat):Int)=((q1 * A+r1:Nat):Int):=by rw [a]
   simp only [Int.natCast_add,Int.natCast_mul] at this;omega
 have id:(p1:Int) * q0 - p0 * q1=1:=by
   have:((p1 * q0:Nat):Int)=((p0 * q1+1:Nat):Int):=by rw [cd]
   simp only [Int.natCast_add,Int.natCast_mul] at this;omega
 obtain ⟨k0,k1⟩:=ceil_pos hL c0;obtain ⟨k2,k3⟩:=ceil_pos hL c1;constructor
 · intro k hk
   have e : k * B<=x * A:=by
     refine Nat.le_of_mul_le_mul_left ?_ hJ;rw [<-Nat.mul_assoc,<-Nat.mul_assoc,Nat.mul_comm J k,Nat.mul_assoc];exact hk
   have:=far_lower (A:=A) (B:=B) (q0:=q0) (p0:=p0) (q1:=q1) (p1:=p1) (x:=x) (k:=k) (r0:=r0) (r1:=r1) (W:=(W+1:Nat)) (L:=L) (by omega) (by omega) (by omega) (by omega) (by omega) i0 i1 id (by omega) (by omega)
     (by have:((k * B:Nat):Int)<=((x * A:Nat):Int):=by omega
         simpa only [Int.natCast_mul] using this)
     (by
       rcases b with (⟨⟨h1,h2⟩,_⟩ | ⟨⟨h1,h2⟩,_⟩) | ⟨⟨h1,h2⟩,_⟩
       · exact .inl ⟨by omega,by omega⟩
       · exact .inr (.inl ⟨by omega,by omega⟩)
       · refine .inr (.inr ⟨by omega,(((L+q0 - 1) / q0:Nat):Int),by omega,?_,?_⟩)
         · have:((((L+q0 - 1) / q0 - 1) * q0:Nat):Int)<(L:Int):=by omega
           rw [Int.natCast_mul,Int.natCast_sub k0] at this;exact this
         · have:((W+1:Nat):Int)<=(((L+q0 - 1) / q0 * r0:Nat):Int):=by omega
           rw [Int.natCast_mul ((L+q0 - 1) / q0)] at this;exact this)
   rw [<-Int.natCast_mul,<-Int.natCast_mul] at this;have e1:J * x * A=J * (x * A):=Nat.mul_assoc _ _ _;have e2:k * (J * B)=J * (k * B):=Nat.mul_left_comm _ _ _;rw [e1,e2];rcases this with h | h
   · left
     have:x * A=k * B:=by omega
     rw [this]
   · right
     have h2:k * B+(W+1)<=x * A:=by omega
     have h3:J * (k * B+(W+1))<=J * (x * A):=Nat.mul_le_mul_left _ h2;rw [Nat.mul_add,Nat.mul_add,Nat.mul_one] at h3;omega
 · intro k hk
   have e : x * A<=k * B:=by
     refine Nat.le_of_mul_le_mul_left ?_ hJ;rw [<-Nat.mul_assoc,<-Nat.mul_assoc,Nat.mul_comm J k,Nat.mul_assoc k];exact hk
   have:=far_upper (A:=A) (B:=B) (q0:=q0) (p0:=p0) (q1:=q1) (p1:=p1) (x:=x) (k:=k) (r0:=r0) (r1:=r1) (W:=V) (L:=L) (by omega) (by omega) (by omega) (by omega) (by omega) i0 i1 id (by omega) (by omega)
     (by have:((x * A:Nat):Int)<=((k * B:Nat):Int):=by omega
         simpa only [Int.natCast_mul] using this)
     (by
       rcases b with (⟨⟨h1,_⟩,h2⟩ | ⟨⟨h1,_⟩,h2⟩) | ⟨⟨h1,_⟩,h2⟩
       · exact .inl ⟨by omega,by omega⟩
       · exact .inr (.inl ⟨by omega,by omega⟩)
       · refine .inr (.inr ⟨by omega,(((L+q1 - 1) / q1:Nat):Int),by omega,?_,?_⟩)
         · have:((((L+q1 - 1) / q1 - 1) * q1:Nat):Int)<(L:Int):=by omega
           rw [Int.natCast_mul,Int.natCast_sub k2] at this;exact this
         · have:(V:Int)<=(((L+q1 - 1) / q1 * r1:Nat):Int):=by omega
           rw [Int.natCast_mul ((L+q1 - 1) / q1)] at this;exact this)
   rw [<-Int.natCast_mul,<-Int.natCast_mul] at this;have e1:J * x * A=J * (x * A):=Nat.mul_assoc _ _ _;have e2:k * (J * B)=J * (k * B):=Nat.mul_left_comm _ _ _;rw [e1,e2];rcases this with h | h
   · left
     have:x * A=k * B:=by omega
     rw [this]
   · right
     have h2:x * A+V<=k * B:=by omega
     have h3:J * (x * A+V)<=J * (k * B):=Nat.mul_le_mul_left _ h2;rw [Nat.mul_add] at h3;omega
theorem certF_ok:allOk (okF 4 9 9007199254740992) 0 certF=true:=by decide +kernel
theorem certP_ok:allOk (okF 8 0 9223372036854775808) 0 certP=true:=by decide +kernel
theorem certF_len:certF.length=696:=by decide +kernel
theorem Fm:certP.length=696:=by decide +kernel
theorem hi_ok:allOk (fun p _=>hiOk p) 0 certP=true:=by decide +kernel
theorem at10 {f:Int->Nat × Nat->Bool} {l:List (Nat × Nat)} (h:allOk f 0 l=true) (hl:l.length=696) {p:Int} (h0:-348<=p) (h1:p<=347):∃c,f p c=true:=by
 obtain ⟨c,hc⟩:=allOk_at h (p+348).toNat (by omega);refine ⟨c,?_⟩;rw [show p=(((0+(p+348).toNat:Nat):Int) - 348) by omega];exact hc
theorem Clear.more {y E W V:Nat} (h:Clear y E W V) (n:Nat):Clear y (E * 2 ^ n) W V:=
 ⟨fun k hk=>by rw [Nat.mul_comm E,<-Nat.mul_assoc] at *;exact h.low _ hk,fun k hk=>by rw [Nat.mul_comm E,<-Nat.mul_assoc] at *;exact h.high _ hk⟩
theorem uscale_p {x s:Nat} {p:Int} (h0:-348<=p) (h1:p<=347) (hs:8<=s) (hx0:9223372036854775808<=x) (hx1:x<18446744073709551616) :
  Co 18446744073709551616 x (hiT p) (loT p) s=unr (x * tN p) (tD p * (18446744073709551616 * 18446744073709551616) * 2 ^ s):=by
 obtain ⟨_,hh⟩:=at10 hi_ok Fm h0 h1;rw [hiOk,Bool.and_eq_true,decide_eq_true_eq,decide_eq_true_eq] at hh;obtain ⟨c,hc⟩:=at10 certP_ok Fm h0 h1;have h2:=clear_of hc (by decide) hx0 hx1 (by decide);rw [Nat.pow_zero,Nat.one_mul] at h2;refine uscale_gen (by decide) (by omega) hx1 (by omega) hh.2 (lo_lt p) (Eh p) ?_ ?_ ?_
 ·rw [pm_eq];exact pm_low p
 ·rw [pm_eq];exact pm_up p
 ·have h3:=h2.more (s - 8)
  rw [Nat.mul_assoc _ (2 ^ 8),<-Nat.pow_add,show 8+(s - 8)=s by omega] at h3;exact h3
theorem uscale_f {x s:Nat} {p:Int} (h0:-348<=p) (h1:p<=347) (hs:4<=s) (hx0:4611686018427387904<=x) (hx1:x<18446744073709551616) (hx9:x % 512=0) :
  Co 18446744073709551616 x (hiT p) (loT p) s=unr (x * tN p) (tD p * (18446744073709551616 * 18446744073709551616) * 2 ^ s):=by
 obtain ⟨_,hh⟩:=at10 hi_ok Fm h0 h1;rw [hiOk,Bool.and_eq_true,decide_eq_true_eq,decide_eq_true_eq] at hh;obtain ⟨c,hc⟩:=at10 certF_ok certF_len h0 h1;obtain ⟨z,rfl⟩:∃z,x=512 * z:=⟨x / 512,by omega⟩;have h2:=clear_of (x:=z) hc (by decide) (by omega) (by show z<36028797018963968;omega) (by decide);refine uscale_gen (by decide) (by omega) hx1 (by omega) hh.2 (lo_lt p) (Eh p) ?_ ?_ ?_
 ·rw [pm_eq];exact pm_low p
 ·rw [pm_eq];exact pm_up p
 ·have h3:=h2.more (s - 4)
  rw [Nat.mul_assoc _ (2 ^ 4),<-Nat.pow_add,show 4+(s - 4)=s by omega] at h3;exact h3
theorem Ea {y E:Nat} (hE:0<E):(unr y E % 2=0->y=unr y E * E)/\(unr y E % 2=1->(unr y E - 1) * E<y/\y<(unr y E+1) * E):=by
 have h:=Nat.div_add_mod y E;have h2:=Nat.mod_lt y hE;obtain ⟨q,hq⟩:∃q,q=y / E:=⟨_,rfl⟩;obtain ⟨t,ht⟩:∃t,t=y % E:=⟨_,rfl⟩;rw [<-hq,<-ht] at h;rw [<-ht] at h2;unfold unr;rw [<-hq,<-ht];rw [Nat.mul_comm] at h;clear hq ht;by_cases h0:t=0
 ·subst h0
  rw [show decide ((0:Nat)≠0)=false by rfl];show (q % 2=0->y=q * E)/\(q % 2=1->(q - 1) * E<y/\y<(q+1) * E);refine ⟨fun _=>by omega,fun hq=>?_⟩;have e1:q * E=(q - 1) * E+E:=by rw [<-Nat.succ_mul];congr 1;omega
  have e2:(q+1) * E=q * E+E:=Nat.succ_mul _ _;omega
 ·rw [show decide (t≠0)=true by simpa using h0]
  show ((q / 2 * 2+1) % 2=0->_)/\(_->(q / 2 * 2+1 - 1) * E<y/\y<(q / 2 * 2+1+1) * E);refine ⟨fun h=>by omega,fun _=>?_⟩;rw [Nat.add_sub_cancel];have l1:q / 2 * 2 * E<=q * E:=Nat.mul_le_mul_right _ (by omega);have l2:(q+1) * E<=(q / 2 * 2+1+1) * E:=Nat.mul_le_mul_right _ (by omega);rw [Nat.succ_mul] at l2;omega
def rndU (u:Nat):Nat:=(u+1+u / 4 % 2) / 4
theorem rndU_spec {y E:Nat} (hE:0<E):y<=(4 * rndU (unr y E)+2) * E/\4 * rndU (unr y E) * E<=y+2 * E/\(y=(4 * rndU (unr y E)+2) * E\/4 * rndU (unr y E) * E=y+2 * E->rndU (unr y E) % 2=0):=by
 obtain ⟨s0,s1⟩:=Ea (y:=y) hE;obtain ⟨u,hu⟩:∃u,u=unr y E:=⟨_,rfl⟩;rw [<-hu] at s0 s1 ⊢;obtain ⟨m,hm⟩:∃m,m=rndU u:=⟨_,rfl⟩;have a := hm;unfold rndU at a;rw [<-hm];clear hu hm;have em:(4 * m+2) * E=4 * m * E+2 * E:=Nat.add_mul _ _ _;rcases (show u % 4=0\/u % 4=1\/u % 4=2\/u % 4=3 by omega) with h | h | h | h
 ·have hy:=s0 (by omega)
  obtain rfl:u=4 * m:=by omega
  omega
 ·obtain ⟨h1,h2⟩:=s1 (by omega)
  obtain rfl:u=4 * m+1:=by omega
  rw [Nat.add_sub_cancel] at h1;rw [show 4 * m+1+1=4 * m+2 by omega] at h2;omega
 ·have hy:=s0 (by omega)
  by_cases hp:u / 4 % 2=0
  ·obtain rfl:u=4 * m+2:=by omega
   have:m % 2=0:=by omega
   omega
  ·obtain ⟨k,rfl⟩:∃k,m=k+1:=⟨m - 1,by omega⟩
   obtain rfl:u=4 * k+2:=by omega
   have e1:4 * (k+1) * E=4 * k * E+4 * E:=by rw [Nat.mul_add,Nat.add_mul]
   have e2:(4 * k+2) * E=4 * k * E+2 * E:=Nat.add_mul _ _ _;have:(k+1) % 2=0:=by omega
   omega
 ·obtain ⟨h1,h2⟩:=s1 (by omega)
  obtain ⟨k,rfl⟩:∃k,m=k+1:=⟨m - 1,by omega⟩;obtain rfl:u=4 * k+3:=by omega
  have e1:4 * (k+1) * E=4 * k * E+4 * E:=by rw [Nat.mul_add,Nat.add_mul]
  have e2:(4 * k+3 - 1) * E=4 * k * E+2 * E:=by rw [show 4 * k+3 - 1=4 * k+2 by omega,Nat.add_mul]
  have e3:(4 * k+3+1) * E=4 * k * E+4 * E:=by rw [show 4 * k+3+1=4 * k+4 by omega,Nat.add_mul]
  omega
theorem ceil_spec {y E:Nat} (hE:0<E) {o:Nat} (ho:o<=1) (d:Nat):(unr y E+o+3) / 4<=d ↔ y+o<=4 * d * E:=by
 obtain ⟨s0,s1⟩:=Ea (y:=y) hE;obtain ⟨u,hu⟩:∃u,u=unr y E:=⟨_,rfl⟩;rw [<-hu] at s0 s1 ⊢;clear hu;have a:(u+o+3) / 4<=d ↔ u+o<=4 * d:=by omega
 rw [a];rcases Nat.mod_two_eq_zero_or_one u with h | h
 ·have hy:=s0 h
  constructor
  ·intro h1
   have:(u+o) * E<=4 * d * E:=Nat.mul_le_mul_right _ h1;rw [Nat.add_mul] at this;have:o<=o * E:=Nat.le_mul_of_pos_right _ hE;omega
  ·intro h1
   by_cases h2:u+o<=4 * d
   ·exact h2
   ·rcases (show 4 * d=u\/4 * d<u by omega) with h3 | h3
    ·rw [h3] at h1;omega
    ·have:(4 * d+1) * E<=u * E:=Nat.mul_le_mul_right _ h3
     rw [Nat.add_mul,Nat.one_mul] at this;omega
 ·obtain ⟨h1,h2⟩:=s1 h
  constructor
  ·intro h3
   have:(u+1) * E<=4 * d * E:=Nat.mul_le_mul_right _ (by omega);omega
  ·intro h3
   by_cases h4:u+1<=4 * d
   ·omega
   ·have:4 * d * E<=(u - 1) * E:=Nat.mul_le_mul_right _ (by omega)
    omega
theorem floor_spec {y E:Nat} (hE:0<E) {o:Nat} (ho:o<=1) (hu:1<=unr y E) (d:Nat):d<=(unr y E - o) / 4 ↔ 4 * d * E+o<=y:=by
 obtain ⟨s0,s1⟩:=Ea (y:=y) hE;obtain ⟨u,hu'⟩:∃u,u=unr y E:=⟨_,rfl⟩;rw [<-hu'] at s0 s1 hu ⊢;clear hu';have a:d<=(u - o) / 4 ↔ 4 * d+o<=u:=by omega
 rw [a];rcases Nat.mod_two_eq_zero_or_one u with h | h
 ·have hy:=s0 h
  constructor
  ·intro h1
   have:(4 * d+o) * E<=u * E:=Nat.mul_le_mul_right _ h1;rw [Nat.add_mul] at this;have:o<=o * E:=Nat.le_mul_of_pos_right _ hE;omega
  ·intro h1
   by_cases h2:4 * d+o<=u
   ·exact h2
   ·rcases (show 4 * d=u\/u<4 * d by omega) with h3 | h3
    ·rw [h3] at h1;omega
    ·have:(u+1) * E<=4 * d * E:=Nat.mul_le_mul_right _ h3
     rw [Nat.add_mul,Nat.one_mul] at this;omega
 ·obtain ⟨h1,h2⟩:=s1 h
  constructor
  ·intro h3
   have:4 * d * E<=(u - 1) * E:=Nat.mul_le_mul_right _ (by omega);omega
  ·intro h3
   by_cases h4:4 * d+1<=u
   ·omega
   ·have:(u+1) * E<=4 * d * E:=Nat.mul_le_mul_right _ (by omega)
    omega
def mid (r:Nat):Nat:=rv r+rv (r+1)
theorem mid_lt {r s:Nat} (h:r<s):mid r<mid s:=by
 have:=rv_lt h;have:=rv_lt (show r+1<s+1 by omega);unfold mid;omega
theorem mid_le {r s:Nat} (h:r<=s):mid r<=mid s:=by
 rcases Nat.eq_or_lt_of_le h with h | h
 ·rw [h];exact Nat.le_refl _
 ·exact Nat.le_of_lt (mid_lt h)
structure InI (r a b:Nat):Prop where
 low:r=0\/mid (r - 1) * b<a\/(mid (r - 1) * b=a/\r % 2=0)
 high:a<mid r * b\/(a=mid r * b/\r % 2=0)
theorem InI.uniq {r r' a b:Nat} (hb:0<b) (h:InI r a b) (h' : InI r' a b):r=r' := by
 have c:∀{r r' : Nat},InI r a b->InI r' a b->¬r<r' := by
  intro r r' h h' hlt;have h1:=h.high;have h2:=h'.low;have h3:mid r * b<=mid (r' - 1) * b:=Nat.mul_le_mul_right _ (mid_le (by omega));rcases Nat.eq_or_lt_of_le (show r<=r' - 1 by omega) with h4 | h4
  ·rw [<-h4] at h2;omega
  ·have h5:mid r * b<mid (r' - 1) * b:=Nat.mul_lt_mul_of_pos_right (mid_lt h4) hb
   omega
 rcases Nat.lt_trichotomy r r' with h1 | h1 | h1
 ·exact absurd h1 (c h h')
 ·exact h1
 ·exact absurd h1 (c h' h)
theorem InI.scale {r a b:Nat} {c:Nat} (hc:0<c):InI r (a * c) (b * c) ↔ InI r a b:=by
 have e:∀m:Nat,m * (b * c)=m * b * c:=fun m=>(Nat.mul_assoc _ _ _).symm;have l:∀x y:Nat,x * c<y * c ↔ x<y:=fun x y=>⟨fun h=>Nat.lt_of_mul_lt_mul_right h,fun h=>Nat.mul_lt_mul_of_pos_right h hc⟩;have q:∀x y:Nat,x * c=y * c ↔ x=y:=fun x y=>⟨fun h=>Nat.eq_of_mul_eq_mul_right hc h,fun h=>by rw [h]⟩;constructor
 ·intro ⟨h1,h2⟩
  rw [e,l,q] at h1 h2;exact ⟨h1,h2⟩
 ·intro ⟨h1,h2⟩
  refine ⟨?_,?_⟩
  ·rw [e,l,q];exact h1
  ·rw [e,l,q];exact h2
theorem rv_at {k m:Nat} (h0:k=0\/4503599627370496<=m) (h1:m<=9007199254740992):rv (k * 4503599627370496+m)=m * 2 ^ k:=by
 unfold rv;by_cases h2:k * 4503599627370496+m<4503599627370496
 ·rw [if_pos h2]
  obtain rfl:k=0:=by omega
  simp
 ·rw [if_neg h2]
  rcases Nat.eq_or_lt_of_le h1 with h3 | h3
  ·subst h3
   rw [show (k * 4503599627370496+9007199254740992) % 4503599627370496=0 by omega,show (k * 4503599627370496+9007199254740992) / 4503599627370496 - 1=k+1 by omega,Nat.pow_succ];omega
  ·by_cases h4:4503599627370496<=m
   ·rw [show 4503599627370496+(k * 4503599627370496+m) % 4503599627370496=m by omega,show (k * 4503599627370496+m) / 4503599627370496 - 1=k by omega]
   ·omega
theorem inI_of {k m a b:Nat} (h0:k=0\/4503599627370496<=m) (h1:m<=9007199254740992)
  (hl:2 * m * 2 ^ k * b<=a+2 ^ k * b) (hh:a<=(2 * m+1) * 2 ^ k * b) (he:2 * m * 2 ^ k * b=a+2 ^ k * b\/a=(2 * m+1) * 2 ^ k * b->m % 2=0)
  (hq:k=0\/4503599627370496<m\/4 * m * 2 ^ k * b<=2 * a+2 ^ k * b):InI (k * 4503599627370496+m) a b:=by
 have hr:=rv_at h0 h1;have d:(k * 4503599627370496+m) % 2=m % 2:=by omega
 obtain ⟨T,hT⟩:∃T,T=2 ^ k * b:=⟨_,rfl⟩;have eT:∀c:Nat,c * 2 ^ k * b=c * T:=fun c=>by rw [hT,Nat.mul_assoc]
 rw [eT] at hl hh he hq;rw [<-hT] at hl he hq;rw [eT] at he;have e2:(2 * m+1) * T=2 * m * T+T:=by rw [Nat.add_mul,Nat.one_mul]
 constructor
 ·rcases Nat.eq_zero_or_pos (k * 4503599627370496+m) with hz | hz
  ·exact .inl hz
  ·right
   have hlow:mid (k * 4503599627370496+m - 1) * b<=a/\(mid (k * 4503599627370496+m - 1) * b=a->m % 2=0):=by
    unfold mid;rw [show k * 4503599627370496+m - 1+1=k * 4503599627370496+m by omega,hr];by_cases hb:k=0\/4503599627370496<m
    ·have hm1:1<=m:=by omega
     have:=rv_at (k:=k) (m:=m - 1) (by omega) (by omega);rw [show k * 4503599627370496+m - 1=k * 4503599627370496+(m - 1) by omega,this,<-Nat.add_mul,eT,show m - 1+m=2 * m - 1 by omega,Nat.sub_mul,Nat.one_mul];have:T<=2 * m * T:=Nat.le_mul_of_pos_left _ (by omega);omega
    ·obtain ⟨j,rfl⟩:∃j,k=j+1:=⟨k - 1,by omega⟩
     obtain rfl:m=4503599627370496:=by omega
     have:=rv_at (k:=j) (m:=9007199254740991) (by omega) (by omega);rw [show (j+1) * 4503599627370496+4503599627370496 - 1=j * 4503599627370496+9007199254740991 by omega,this];have hq' : 4 * 4503599627370496 * T<=2 * a+T:=by omega
     have e3:(9007199254740991 * 2 ^ j+4503599627370496 * 2 ^ (j+1)) * b=18014398509481983 * (2 ^ j * b):=by
      rw [Nat.pow_succ,Nat.mul_comm (2 ^ j) 2,<-Nat.mul_assoc 4503599627370496,<-Nat.add_mul,Nat.mul_assoc]
     have e4:T=2 * (2 ^ j * b):=by rw [hT,Nat.pow_succ,Nat.mul_comm (2 ^ j) 2,Nat.mul_assoc]
     rw [e3];generalize 2 ^ j * b=z at *;omega
   rw [d];omega
 ·have hhigh:a<=mid (k * 4503599627370496+m) * b/\(a=mid (k * 4503599627370496+m) * b->m % 2=0):=by
   unfold mid;rw [hr];rcases Nat.eq_or_lt_of_le h1 with h3 | h3
   ·subst h3
    have:=rv_at (k:=k+1) (m:=4503599627370497) (by omega) (by omega);rw [show k * 4503599627370496+9007199254740992+1=(k+1) * 4503599627370496+4503599627370497 by omega,this,Nat.pow_succ,Nat.mul_comm (2 ^ k) 2,<-Nat.mul_assoc,<-Nat.add_mul,eT];refine ⟨by omega,fun _=>by decide⟩
   ·have:=rv_at (k:=k) (m:=m+1) (by omega) (by omega)
    rw [Nat.add_assoc,this,<-Nat.add_mul,eT,show m+(m+1)=2 * m+1 by omega];omega
  rw [d];omega
theorem unr_half {y E:Nat} (hE:0<E):Ch (unr y E / 2) (decide (unr y E % 2=1))=unr y (2 * E):=by
 have h:=Nat.div_add_mod y E;have h2:=Nat.mod_lt y hE;have h3:y / (2 * E)=y / E / 2:=by rw [Nat.mul_comm,Nat.div_div_eq_div_mul]
 have h4:=Nat.div_add_mod y (2 * E);rw [h3] at h4;obtain ⟨q,hq⟩:∃q,q=y / E:=⟨_,rfl⟩;obtain ⟨t,ht⟩:∃t,t=y % E:=⟨_,rfl⟩;obtain ⟨v,hv⟩:∃v,v=y % (2 * E):=⟨_,rfl⟩;unfold unr;rw [h3,<-hq,<-ht,<-hv];rw [<-hq,<-ht] at h;rw [<-hq,<-hv] at h4;rw [<-ht] at h2;have e1:2 * E * (q / 2)=E * (q / 2 * 2):=by rw [Nat.mul_comm 2 E,Nat.mul_assoc,Nat.mul_comm 2]
 have e2:E * q=E * (q / 2 * 2)+E * (q % 2):=by rw [<-Nat.mul_add];congr 1;omega
 have a:v=E * (q % 2)+t:=by omega
 clear hq ht hv h h4 h3 e1 e2;by_cases h0:t=0
 ·subst h0
  rw [show decide ((0:Nat)≠0)=false by rfl];show Ch (q / 2) (decide (q % 2=1))=_;rcases Nat.mod_two_eq_zero_or_one q with h | h
  ·rw [h] at a ⊢
   rw [show v=0 by omega];rfl
  ·rw [h] at a ⊢
   rw [show decide (v≠0)=true by rw [decide_eq_true_iff];omega];rfl
 ·rw [show decide (t≠0)=true by rw [decide_eq_true_iff];exact h0,show decide (v≠0)=true by rw [decide_eq_true_iff];omega]
  show Ch ((q / 2 * 2+1) / 2) (decide ((q / 2 * 2+1) % 2=1))=_;rw [show (q / 2 * 2+1) / 2=q / 2 by omega,show (q / 2 * 2+1) % 2=1 by omega];rfl
def An (d:Nat):Nat:=if d=0 then 0 else d.log2+1
theorem F6 {d:Nat} (h:0<d):2 ^ (An d - 1)<=d/\d<2 ^ An d/\1<=An d:=by
 unfold An;rw [if_neg (by omega),Nat.add_sub_cancel];exact ⟨Nat.log2_self_le (by omega),Nat.lt_log2_self,by omega⟩
theorem len64_le {d:Nat} (h:d<18446744073709551616):An d<=64:=by
 unfold An;split
 ·omega
 ·have:=(Nat.log2_lt (n:=d) (k:=64) (by omega)).2 h
  omega
theorem norm64 {d:Nat} (h:0<d) (h2:d<18446744073709551616):9223372036854775808<=d * 2 ^ (64 - An d)/\d * 2 ^ (64 - An d)<18446744073709551616:=by
 obtain ⟨a,b,c⟩:=F6 h;have l:=len64_le h2;constructor
 ·have:2 ^ (An d - 1) * 2 ^ (64 - An d)<=d * 2 ^ (64 - An d):=Nat.mul_le_mul_right _ a
  rw [<-Nat.pow_add,show An d - 1+(64 - An d)=63 by omega] at this;exact this
 ·have:d * 2 ^ (64 - An d)<2 ^ An d * 2 ^ (64 - An d):=Nat.mul_lt_mul_of_pos_right b (Nat.two_pow_pos _)
  rw [<-Nat.pow_add,show An d+(64 - An d)=64 by omega] at this;exact this
def lpOk (p:Int):Bool:=decide (170141183460469231731687303715884105728 * tD p<=tN p) && decide (tN p<=340282366920938387905510881517444792320 * tD p)
theorem lp_ok:allOk (fun p _=>lpOk p) 0 certP=true:=by decide +kernel
def parE (d:Nat) (p:Int):Int:=min 1074 (53 - An d - lp10 p)
def parS (d:Nat) (p:Int):Int:=-(parE d p - (64 - An d)+lp10 p+3)
def C5 (m:Nat) (k:Nat):Nat:=if m<4503599627370496 then m else if 2046<=k then 9218868437227405312 else (k+1) * 4503599627370496+(m - 4503599627370496)
def B8 (d:Nat) (p:Int):Nat:=
 if 64<=parS d p then 0 else
  let u:=Co 18446744073709551616 (d * 2 ^ (64 - An d)) (hiT p) (loT p) (parS d p).toNat
  if 36028797018963966<=u then C5 (rndU (Ch (u / 2) (decide (u % 2=1)))) (1075 - parE d p).toNat
  else C5 (rndU u) (1074 - parE d p).toNat
theorem packN_eq {m k:Nat} (h0:k=0\/4503599627370496<=m) (h1:m<9007199254740992):C5 m k=min (k * 4503599627370496+m) 9218868437227405312:=by
 unfold C5;by_cases h:m<4503599627370496
 ·rw [if_pos h]
  obtain rfl:k=0:=by omega
  omega
 ·rw [if_neg h]
  by_cases h2:2046<=k
  ·rw [if_pos h2]
   have:2046 * 4503599627370496<=k * 4503599627370496:=Nat.mul_le_mul_right _ h2;omega
  ·rw [if_neg h2]
   have:k * 4503599627370496<=2045 * 4503599627370496:=Nat.mul_le_mul_right _ (by omega);rw [Nat.add_mul];omega
def hp:Nat:=1075
def decA (d:Nat) (p:Int):Nat:=d * 10 ^ p.toNat * 2 ^ hp
def Aq (p:Int):Nat:=10 ^ (-p).toNat
theorem rel1 {d:Nat} {p:Int} {s k:Nat} (hl:An d<=64) (h:(k:Int)=1204+s - 64+An d - 127+lp10 p) :
  2 * decA d p * (tD p * (18446744073709551616 * 18446744073709551616) * 2 ^ s)=d * 2 ^ (64 - An d) * tN p * 2 ^ k * Aq p:=by
 unfold decA Aq tN tD;rw [show (18446744073709551616 * 18446744073709551616:Nat)=2 ^ 128 by decide];have e:2 * 2 ^ hp * (2 ^ (lp10 p - 127).toNat * 2 ^ 128 * 2 ^ s)=2 ^ (64 - An d) * 2 ^ (127 - lp10 p).toNat * 2 ^ k:=by
  rw [<-Nat.pow_add,<-Nat.pow_add,<-Nat.pow_add,<-Nat.pow_add,<-Nat.pow_succ', <-Nat.pow_add];congr 1;have:hp=1075:=rfl;omega
 generalize 10 ^ (-p).toNat=b at *;generalize 10 ^ p.toNat=a at *;generalize 2 ^ hp=t at *;generalize 2 ^ (lp10 p - 127).toNat=x at *;generalize 2 ^ (127 - lp10 p).toNat=y at *;generalize 2 ^ (64 - An d)=z at *;generalize 2 ^ 128=v at *;generalize 2 ^ s=S at *;generalize 2 ^ k=K at *;have e2:2 * (d * a * t) * (b * x * v * S)=d * a * b * (2 * t * (x * v * S)):=by
  simp only [Nat.mul_assoc,Nat.mul_left_comm,Nat.mul_comm]
 rw [e2,e];simp only [Nat.mul_assoc,Nat.mul_left_comm,Nat.mul_comm]
theorem four (m T:Nat):4 * m * T=2 * (2 * m * T):=by rw [<-Nat.mul_assoc 2 (2 * m) T,<-Nat.mul_assoc 2 2 m]
theorem four2 (m T:Nat):(4 * m+2) * T=2 * ((2 * m+1) * T):=by rw [<-Nat.mul_assoc 2 (2 * m+1) T];congr 1;omega
theorem inI_scaled {m k a b y E:Nat} (hE:0<E) (hb:0<b) (h0:k=0\/4503599627370496<=m) (h1:m<=9007199254740992) (hrel:2 * a * E=y * 2 ^ k * b)
  (h2:y<=(4 * m+2) * E) (h3:4 * m * E<=y+2 * E) (h4:y=(4 * m+2) * E\/4 * m * E=y+2 * E->m % 2=0)
  (h5:k=0\/4503599627370496<m\/4 * m * E<=y+E):InI (k * 4503599627370496+m) a b:=by
 have hT:0<2 ^ k * b:=Nat.mul_pos (Nat.two_pow_pos k) hb;have e1:∀c:Nat,c * 2 ^ k * b=c * (2 ^ k * b):=fun c=>Nat.mul_assoc _ _ _;rw [e1] at hrel;have f:∀c:Nat,y<=c * E->2 * a<=c * (2 ^ k * b):=fun c hc=>by
  refine Nat.le_of_mul_le_mul_right ?_ hE;rw [hrel,Nat.mul_right_comm];exact Nat.mul_le_mul_right _ hc
 have d : ∀c:Nat,c * E<=y->c * (2 ^ k * b)<=2 * a:=fun c hc=>by
  refine Nat.le_of_mul_le_mul_right ?_ hE;rw [hrel,Nat.mul_right_comm];exact Nat.mul_le_mul_right _ hc
 have e:∀c:Nat,2 * a=c * (2 ^ k * b)->y=c * E:=fun c hc=>by
  rw [hc,Nat.mul_right_comm] at hrel;exact (Nat.eq_of_mul_eq_mul_right hT hrel).symm
 have e2:(4 * m+2) * E=4 * m * E+2 * E:=Nat.add_mul _ _ _;have low:4 * m * (2 ^ k * b)<=2 * a+2 * (2 ^ k * b):=by
  rcases Nat.eq_zero_or_pos m with hm | hm
  ·subst hm;omega
  ·have:=d (4 * m - 2) (by rw [Nat.sub_mul];omega)
   rw [Nat.sub_mul] at this;omega
 refine inI_of h0 h1 ?_ ?_ ?_ ?_
 ·rw [e1]
  have:=four m (2 ^ k * b);omega
 ·rw [e1]
  have:=f _ h2;have e3:=four2 m (2 ^ k * b);omega
 ·rw [e1,e1]
  intro h;refine h4 ?_;rcases h with h | h
  ·right
   rcases Nat.eq_zero_or_pos m with hm | hm
   ·subst hm;omega
   ·have:=e (4 * m - 2) (by
     rw [Nat.sub_mul];have:=four m (2 ^ k * b);omega)
    rw [Nat.sub_mul] at this;have:2 * E<=4 * m * E:=Nat.mul_le_mul_right _ (by omega);omega
  ·left
   refine e _ ?_;rw [h];exact (four2 m _).symm
 ·rcases h5 with h | h | h
  ·exact .inl h
  ·exact .inr (.inl h)
  ·right;right
   rw [e1];rcases Nat.eq_zero_or_pos m with hm | hm
   ·subst hm;omega
   ·have:=d (4 * m - 1) (by rw [Nat.sub_mul];omega)
    rw [Nat.sub_mul] at this;omega
theorem lp_bounds {p:Int} (h0:-348<=p) (h1:p<=347):170141183460469231731687303715884105728 * tD p<=tN p/\tN p<=340282366920938387905510881517444792320 * tD p:=by
 obtain ⟨_,h⟩:=at10 lp_ok Fm h0 h1;rw [lpOk,Bool.and_eq_true,decide_eq_true_eq,decide_eq_true_eq] at h;exact h
theorem y_bounds {x s:Nat} {p:Int} (h0:-348<=p) (h1:p<=347) (hx0:9223372036854775808<=x) (hx1:x<18446744073709551616) (hs:8<=s) :
  x * tN p * 2 ^ (s - 8)<72057594037927920 * (tD p * (18446744073709551616 * 18446744073709551616) * 2 ^ s) /\
  (s=8->18014398509481984 * (tD p * (18446744073709551616 * 18446744073709551616) * 2 ^ s)<=x * tN p) /\
  x * tN p * 2 ^ s<18446744073709551616 * 2 ^ s * (tD p * (18446744073709551616 * 18446744073709551616)):=by
 obtain ⟨b0,b1⟩:=lp_bounds h0 h1;have hD:=Eh p;have hN:=tN_pos p;have hS:2 ^ s=256 * 2 ^ (s - 8):=by
  rw [show (256:Nat)=2 ^ 8 by decide,<-Nat.pow_add];congr 1;omega
 have hT:=Nat.two_pow_pos (s - 8);have a:=Nat.two_pow_pos s;have c1:x * tN p<18446744073709551616 * tN p:=Nat.mul_lt_mul_of_pos_right hx1 hN;have c0:9223372036854775808 * tN p<=x * tN p:=Nat.mul_le_mul_right _ hx0;generalize tD p=D at *;generalize tN p=N at *;generalize x * N=y at *;obtain ⟨Q,hQ⟩:∃Q,Q=18446744073709551616 * 18446744073709551616:=⟨_,rfl⟩;rw [<-hQ];refine ⟨?_,?_,?_⟩
 ·rw [hS]
  generalize 2 ^ (s - 8)=T at *;have e:72057594037927920 * (D * Q * (256 * T))=72057594037927920 * (Q * 256) * D * T:=by
   simp only [Nat.mul_assoc,Nat.mul_left_comm,Nat.mul_comm]
  rw [e];refine Nat.mul_lt_mul_of_pos_right (Nat.lt_of_lt_of_le c1 ?_) hT;have:18446744073709551616 * N<=18446744073709551616 * (340282366920938387905510881517444792320 * D):=Nat.mul_le_mul_left _ b1;rw [<-Nat.mul_assoc] at this;have e2:18446744073709551616 * 340282366920938387905510881517444792320=72057594037927920 * (Q * 256):=by rw [hQ]
  rw [<-e2];exact this
 ·intro h8
  subst h8;refine Nat.le_trans ?_ c0;have:9223372036854775808 * (170141183460469231731687303715884105728 * D)<=9223372036854775808 * N:=Nat.mul_le_mul_left _ b0;rw [<-Nat.mul_assoc] at this;refine Nat.le_trans (Nat.le_of_eq ?_) this;have e2:9223372036854775808 * 170141183460469231731687303715884105728=18014398509481984 * (Q * 256):=by rw [hQ]
  rw [e2];show 18014398509481984 * (D * Q * 256)=_;simp only [Nat.mul_assoc,Nat.mul_left_comm,Nat.mul_comm]
 ·have:y<18446744073709551616 * (D * Q):=by
   refine Nat.lt_of_lt_of_le c1 ?_;have:18446744073709551616 * N<=18446744073709551616 * (340282366920938387905510881517444792320 * D):=Nat.mul_le_mul_left _ b1;refine Nat.le_trans this (Nat.mul_le_mul_left _ ?_);rw [Nat.mul_comm D];refine Nat.mul_le_mul_right _ ?_;rw [hQ];decide
  rw [Nat.mul_right_comm];exact Nat.mul_lt_mul_of_pos_right this a
theorem Fs {d:Nat} {p:Int} (hd:0<d) (hd2:d<18446744073709551616) (h0:-348<=p) (h1:p<=347) :
   ∃r,InI r (decA d p) (Aq p)/\B8 d p=min r 9218868437227405312:=by
 obtain ⟨n0,n1⟩:=norm64 hd hd2;have hl:=len64_le hd2;have hb:0<Aq p:=Nat.pow_pos (by decide);have hs8:8<=parS d p:=by unfold parS parE;omega
 have i:parS d p=8\/parE d p=1074:=by unfold parS parE;omega
 have hke:parE d p<=1074:=by unfold parE;omega
 have hse:parS d p=61 - parE d p - lp10 p - An d:=by unfold parS;omega
 obtain ⟨s,hs⟩:∃s:Nat,parS d p=s:=⟨(parS d p).toNat,by omega⟩;obtain ⟨k,hk⟩:∃k:Nat,parE d p=1074 - k:=⟨(1074 - parE d p).toNat,by omega⟩;have hrel:=rel1 (d:=d) (p:=p) (s:=s) (k:=k) hl (by omega);obtain ⟨b1,b2,b3⟩:=y_bounds (s:=s) h0 h1 n0 n1 (by omega);have hE:0<tD p * (18446744073709551616 * 18446744073709551616) * 2 ^ s:=Nat.mul_pos (Nat.mul_pos (Eh p) (by decide)) (Nat.two_pow_pos s);have hu:=uscale_p (s:=s) h0 h1 (by omega) n0 n1
 have c:B8 d p=if 64<=s then 0 else if 36028797018963966<=unr (d * 2 ^ (64 - An d) * tN p) (tD p * (18446744073709551616 * 18446744073709551616) * 2 ^ s) then
     C5 (rndU (Ch (unr (d * 2 ^ (64 - An d) * tN p) (tD p * (18446744073709551616 * 18446744073709551616) * 2 ^ s) / 2) (decide (unr (d * 2 ^ (64 - An d) * tN p) (tD p * (18446744073709551616 * 18446744073709551616) * 2 ^ s) % 2=1)))) (k+1)
     else C5 (rndU (unr (d * 2 ^ (64 - An d) * tN p) (tD p * (18446744073709551616 * 18446744073709551616) * 2 ^ s))) k:=by
   unfold B8
   rw [hs,hk,Int.toNat_natCast,hu,show (1075 - (1074 - (k:Int))).toNat=k+1 by omega,show (1074 - (1074 - (k:Int))).toNat=k by omega]
   by_cases h:64<=s
   · rw [if_pos (by omega),if_pos h]
   · rw [if_neg (by omega),if_neg h]
 rw [c];clear c hu;have j:1<=2 ^ (s - 8):=Nat.two_pow_pos _;generalize d * 2 ^ (64 - An d) * tN p=y at *;by_cases h64:64<=s
 · -- below all rungs
   rw [if_pos h64];refine ⟨0,⟨.inl rfl,.inl ?_⟩,rfl⟩;obtain rfl:k=0:=by omega
   have hS:2 ^ s=18446744073709551616 * 2 ^ (s - 64):=by
     rw [show (18446744073709551616:Nat)=2 ^ 64 by decide,<-Nat.pow_add];congr 1;omega
   have hT:=Nat.two_pow_pos (s - 64);have l:mid 0=1:=by decide
   rw [l,Nat.one_mul];rw [Nat.pow_zero,Nat.mul_one] at hrel;have hD:=Eh p;have h5:y<tD p * (18446744073709551616 * 18446744073709551616) * 2 ^ s:=by
     refine Nat.lt_of_mul_lt_mul_right (a:=2 ^ s) (Nat.lt_of_lt_of_le b3 ?_);rw [Nat.mul_comm (18446744073709551616 * 2 ^ s),<-Nat.mul_assoc];refine Nat.mul_le_mul_right _ ?_;refine Nat.mul_le_mul_left _ ?_;rw [hS];exact Nat.le_mul_of_pos_right _ hT
   generalize tD p * (18446744073709551616 * 18446744073709551616) * 2 ^ s=E at *;refine Nat.lt_of_mul_lt_mul_right (a:=E) ?_;have:y * Aq p<E * Aq p:=Nat.mul_lt_mul_of_pos_right h5 hb;rw [Nat.mul_comm E] at this;have:2 * decA d p * E=2 * (decA d p * E):=Nat.mul_assoc _ _ _;omega
 · rw [if_neg h64]
   have hyE:y<72057594037927920 * (tD p * (18446744073709551616 * 18446744073709551616) * 2 ^ s):=Nat.lt_of_le_of_lt (Nat.le_mul_of_pos_right _ j) b1;have e:k=0\/18014398509481984 * (tD p * (18446744073709551616 * 18446744073709551616) * 2 ^ s)<=y:=by
     rcases i with h | h
     · exact .inr (b2 (by omega))
     · exact .inl (by omega)
   clear b1 b2 b3;generalize tD p * (18446744073709551616 * 18446744073709551616) * 2 ^ s=E at *;obtain ⟨s0,s1⟩:=Ea (y:=y) hE;by_cases hsh:36028797018963966<=unr y E
   · rw [if_pos hsh,unr_half hE]
     have f:0<2 * E:=by omega
     obtain ⟨t0,t1⟩:=Ea (y:=y) f;obtain ⟨r0,r1,r2⟩:=rndU_spec (y:=y) f;have hy55:36028797018963966 * E<=y:=by
       rcases Nat.mod_two_eq_zero_or_one (unr y E) with h | h
       · rw [s0 h];exact Nat.mul_le_mul_right _ hsh
       · have:=(s1 h).1
         have:36028797018963966 * E<=(unr y E - 1) * E:=Nat.mul_le_mul_right _ (by omega);omega
     have b:4503599627370496<=rndU (unr y (2 * E)):=by
       rcases Nat.lt_or_ge (rndU (unr y (2 * E))) 4503599627370496 with h | h
       · have:(4 * rndU (unr y (2 * E))+2) * (2 * E)<=18014398509481982 * (2 * E):=Nat.mul_le_mul_right _ (by omega)
         have m:rndU (unr y (2 * E))=4503599627370495:=by
           rcases Nat.lt_or_ge (rndU (unr y (2 * E))) 4503599627370495 with h9 | h9
           · have:(4 * rndU (unr y (2 * E))+2) * (2 * E)<=18014398509481978 * (2 * E):=Nat.mul_le_mul_right _ (by omega)
             omega
           · omega
         rw [m] at r2 r0;exact absurd (r2 (.inl (by omega))) (by decide)
       · exact h
     have g:rndU (unr y (2 * E))<9007199254740992:=by
       rcases Nat.lt_or_ge (rndU (unr y (2 * E))) 9007199254740992 with h | h
       · exact h
       · have:4 * 9007199254740992 * (2 * E)<=4 * rndU (unr y (2 * E)) * (2 * E):=Nat.mul_le_mul_right _ (by omega)
         omega
     refine ⟨(k+1) * 4503599627370496+rndU (unr y (2 * E)),?_,packN_eq (.inr b) g⟩;refine inI_scaled f hb (.inr b) (by omega) ?_ r0 r1 r2 ?_
     · have e1:2 * decA d p * (2 * E)=2 * (2 * decA d p * E):=Nat.mul_left_comm _ _ _
       have e2:y * 2 ^ (k+1) * Aq p=2 * (y * 2 ^ k * Aq p):=by
         rw [Nat.pow_succ,Nat.mul_comm (2 ^ k) 2,Nat.mul_left_comm,Nat.mul_assoc]
       rw [e1,e2,hrel]
     · rcases Nat.eq_or_lt_of_le b with h | h
       · right;right
         rw [<-h];omega
       · exact .inr (.inl h)
   · rw [if_neg hsh]
     obtain ⟨r0,r1,r2⟩:=rndU_spec (y:=y) hE;have b:k=0\/4503599627370496<=rndU (unr y E):=by
       rcases e with h | h
       · exact .inl h
       · right
         rcases Nat.lt_or_ge (rndU (unr y E)) 4503599627370496 with h9 | h9
         · have:(4 * rndU (unr y E)+2) * E<=18014398509481982 * E:=Nat.mul_le_mul_right _ (by omega)
           omega
         · exact h9
     have g:rndU (unr y E)<9007199254740992:=by unfold rndU;omega
     refine ⟨k * 4503599627370496+rndU (unr y E),?_,packN_eq b g⟩;refine inI_scaled hE hb b (by omega) hrel r0 r1 r2 ?_;rcases e with h | h
     · exact .inl h
     · rcases Nat.lt_or_ge 4503599627370496 (rndU (unr y E)) with h9 | h9
       · exact .inr (.inl h9)
       · right;right
         have:4 * rndU (unr y E) * E<=18014398509481984 * E:=Nat.mul_le_mul_right _ (by omega);omega
def l10p2 (x:Int):Int:=x * 78913 / 262144
def skewF (e:Int):Int:=(e * 631305 - 261663) / 2097152
def rM (r:Nat):Nat:=if r<4503599627370496 then r else 4503599627370496+r % 4503599627370496
def rK (r:Nat):Nat:=r / 4503599627370496 - 1
theorem Ck (r:Nat):r=rK r * 4503599627370496+rM r/\(rK r=0\/4503599627370496<=rM r)/\rM r<9007199254740992:=by
 unfold rK rM;split<;>omega
theorem rK_lt {r:Nat} (h:r<9218868437227405312):rK r<2046:=by unfold rK;omega
theorem rM_pos {r:Nat} (h:0<r):0<rM r:=by unfold rM;split<;>omega
theorem rv_split (r:Nat):rv r=rM r * 2 ^ rK r:=by
 obtain ⟨h1,h2,h3⟩:=Ck r;have:=rv_at h2 (Nat.le_of_lt h3);rw [<-h1] at this;exact this
def Do (r:Nat):Bool:=decide (rM r=4503599627370496) && decide (1<=rK r)
def fS (r:Nat):Nat:=64 - An (rM r)
def fP (r:Nat):Int:=if Do r then -skewF (rK r - 1074) else -l10p2 (rK r - 1074)
def fSc (r:Nat):Int:=fS r+1071 - lp10 (fP r) - rK r
def xM (r:Nat):Nat:=rM r * 2 ^ fS r
def xLo (r:Nat):Nat:=if Do r then xM r - 512 else xM r - 2 ^ (fS r - 1)
def xHi (r:Nat):Nat:=xM r+2 ^ (fS r - 1)
def usc (r x:Nat):Nat:=Co 18446744073709551616 x (hiT (fP r)) (loT (fP r)) (fSc r).toNat
def fMin (r:Nat):Nat:=(usc r (xLo r)+rM r % 2+3) / 4
def fMax (r:Nat):Nat:=(usc r (xHi r) - rM r % 2) / 4
def A5 (r:Nat):Nat × Int:=
 if fMin r<=fMax r / 10 * 10 then (fMax r / 10,1 - fP r)
 else if fMin r<fMax r then (rndU (usc r (xM r)),-fP r) else (fMin r,-fP r)
theorem mid_high (r:Nat):mid r=(2 * rM r+1) * 2 ^ rK r:=by
 obtain ⟨h1,h2,h3⟩:=Ck r;have h4:=rv_at (k:=rK r) (m:=rM r+1) (by omega) (by omega);rw [<-Nat.add_assoc,<-h1] at h4;unfold mid;rw [h4,rv_split,<-Nat.add_mul];congr 1;omega
theorem mid_low {r:Nat} (h:0<r) (hs:Do r=false):mid (r - 1)=(2 * rM r - 1) * 2 ^ rK r:=by
 obtain ⟨h1,h2,h3⟩:=Ck r;have hM:=rM_pos h;rw [Do,Bool.and_eq_false_iff,decide_eq_false_iff_not,decide_eq_false_iff_not] at hs;have h4:=rv_at (k:=rK r) (m:=rM r - 1) (by omega) (by omega);rw [show rK r * 4503599627370496+(rM r - 1)=r - 1 by omega] at h4;unfold mid;rw [show r - 1+1=r by omega,h4,rv_split r,<-Nat.add_mul];congr 1;omega
theorem mid_skew {r:Nat} (hs:Do r=true):mid (r - 1) * 2=(4 * rM r - 1) * 2 ^ rK r:=by
 obtain ⟨h1,h2,h3⟩:=Ck r;rw [Do,Bool.and_eq_true,decide_eq_true_eq,decide_eq_true_eq] at hs;obtain ⟨hm,hk⟩:=hs;obtain ⟨j,hj⟩:∃j,rK r=j+1:=⟨rK r - 1,by omega⟩;have h4:=rv_at (k:=j) (m:=9007199254740991) (by omega) (by omega);rw [hj,hm] at h1;rw [show j * 4503599627370496+9007199254740991=r - 1 by omega] at h4;unfold mid;rw [show r - 1+1=r by omega,h4,rv_split r,hm,hj,Nat.pow_succ];have:0<2 ^ j:=Nat.two_pow_pos j;generalize 2 ^ j=t at *;omega
theorem D5 {r:Nat} (h:0<r):11<=fS r/\fS r<=63/\(1<=rK r->fS r=11)/\9223372036854775808<=xM r/\xM r+2 ^ fS r<=18446744073709551616:=by
 obtain ⟨h1,h2,h3⟩:=Ck r;have hM:=rM_pos h;obtain ⟨a,b,c⟩:=F6 hM;have hl:An (rM r)<=53:=by
  unfold An;rw [if_neg (by omega)];have:=(Nat.log2_lt (n:=rM r) (k:=53) (by omega)).2 h3;omega
 obtain ⟨n0,n1⟩:=norm64 hM (by omega);refine ⟨by unfold fS;omega,by unfold fS;omega,?_,n0,?_⟩
 ·intro hk
  have:¬An (rM r)<53:=by
   intro h9;have:2 ^ An (rM r)<=2 ^ 52:=Nat.pow_le_pow_right (by decide) (by omega);have:(2:Nat) ^ 52=4503599627370496:=by decide
   omega
  unfold fS;omega
 ·have:(rM r+1) * 2 ^ fS r<=2 ^ An (rM r) * 2 ^ fS r:=Nat.mul_le_mul_right _ b
  rw [<-Nat.pow_add,show An (rM r)+fS r=64 by unfold fS;omega,Nat.add_mul,Nat.one_mul] at this;exact this
theorem Gh {s:Nat} (h:11<=s):2 ^ s=2 * 2 ^ (s - 1)/\2 ^ (s - 1)=1024 * 2 ^ (s - 11):=by
 refine ⟨?_,?_⟩
 ·rw [<-Nat.pow_succ'];congr 1;omega
 ·rw [show (1024:Nat)=2 ^ 10 by decide,<-Nat.pow_add];congr 1;omega
theorem x_spec {r:Nat} (h:0<r):(4611686018427387904<=xLo r/\xLo r<18446744073709551616/\xLo r % 512=0)/\(4611686018427387904<=xM r/\xM r<18446744073709551616/\xM r % 512=0) /\
  (4611686018427387904<=xHi r/\xHi r<18446744073709551616/\xHi r % 512=0):=by
 obtain ⟨s0,s1,s2,s3,s4⟩:=D5 h;obtain ⟨p0,p1⟩:=Gh s0;have e1:xM r=2048 * (rM r * 2 ^ (fS r - 11)):=by
  unfold xM;rw [p0,p1];generalize 2 ^ (fS r - 11)=v;rw [show 2 * (1024 * v)=2048 * v by omega,Nat.mul_left_comm]
 have l1:2 ^ (fS r - 1)<=2 ^ 62:=Nat.pow_le_pow_right (by decide) (by omega);have e62:(2:Nat) ^ 62=4611686018427387904:=by decide
 have hp:=Nat.two_pow_pos (fS r - 11);unfold xLo xHi;generalize rM r * 2 ^ (fS r - 11)=w at *;generalize 2 ^ (fS r - 1)=t at *;generalize 2 ^ (fS r - 11)=v at *;generalize 2 ^ fS r=u at *;split<;>omega
theorem skew_lin (t:Nat):(4503599627370496 * 2048 - 512) * t=(4 * 4503599627370496 - 1) * t * 512:=by omega
theorem xLo_mid {r:Nat} (h:0<r):xLo r * 2 ^ rK r=mid (r - 1) * 2 ^ (fS r - 1):=by
 obtain ⟨s0,s1,s2,s3,s4⟩:=D5 h;obtain ⟨p0,p1⟩:=Gh s0;have hM:=rM_pos h;unfold xLo;cases hs:Do r with
 | false=>
  rw [mid_low h hs];simp only [Bool.false_eq_true,if_false];have e:xM r - 2 ^ (fS r - 1)=(2 * rM r - 1) * 2 ^ (fS r - 1):=by
   unfold xM;rw [p0,Nat.sub_mul,Nat.one_mul,Nat.mul_comm 2 (rM r),Nat.mul_assoc]
  rw [e,Nat.mul_right_comm]
 | true=>
  have h2:=mid_skew hs;rw [Do,Bool.and_eq_true,decide_eq_true_eq,decide_eq_true_eq] at hs;simp only [if_true];have h3:=s2 hs.2;have h4:xM r=4503599627370496 * 2048:=by unfold xM;rw [h3,hs.1]
  have h5:(2:Nat) ^ (11 - 1)=2 * 512:=by decide
  rw [h4,h3,h5,<-Nat.mul_assoc,h2,hs.1];exact skew_lin _
theorem xHi_mid {r:Nat} (h:0<r):xHi r * 2 ^ rK r=mid r * 2 ^ (fS r - 1):=by
 obtain ⟨s0,s1,s2,s3,s4⟩:=D5 h;obtain ⟨p0,p1⟩:=Gh s0;rw [mid_high];unfold xHi xM;rw [p0,<-Nat.mul_assoc,Nat.mul_comm (rM r) 2,Nat.mul_right_comm (2 * rM r+1),Nat.add_mul (2 * rM r) 1,Nat.one_mul]
def allN:Nat->(Nat->Bool)->Bool
 | 0,_=>true
 | n+1,f=>f n && allN n f
theorem F4 {f:Nat->Bool}:∀{n:Nat},allN n f=true->∀k,k<n->f k=true
 | 0,_,k,hk=>by omega
 | n+1,h,k,hk=>by
  rw [allN,Bool.and_eq_true] at h;rcases Nat.eq_or_lt_of_le (Nat.le_of_lt_succ hk) with h1 | h1
  ·rw [h1];exact h.1
  ·exact F4 h.2 k h1
def rngOk (k:Nat) (p:Int):Bool:=decide (-348<=p) && decide (p<=347) && decide (5<=1082 - lp10 p - k) && decide (1082 - lp10 p - k<=8)
theorem rng_l:allN 2046 (fun k=>rngOk k (-l10p2 (k - 1074)))=true:=by decide +kernel
theorem rng_s:allN 2046 (fun k=>decide (k=0) || rngOk k (-skewF (k - 1074)))=true:=by decide +kernel
theorem E7 {r:Nat} (h:0<r) (hr:r<9218868437227405312):-348<=fP r/\fP r<=347/\4<=fSc r/\fSc r<64:=by
 obtain ⟨s0,s1,s2,_,_⟩:=D5 h;have hk:=rK_lt hr;unfold fSc;cases hs:Do r with
 | false=>
  have e:fP r=-l10p2 (rK r - 1074):=by unfold fP;rw [hs];rfl
  have:=F4 rng_l _ hk;rw [<-e] at this;simp only [rngOk,Bool.and_eq_true,decide_eq_true_eq] at this;obtain ⟨⟨⟨h1,h2⟩,h3⟩,h4⟩:=this;rcases Nat.eq_zero_or_pos (rK r) with h0 | h0
  ·have e3:fP r=324:=by rw [e,h0];decide
   have e2:lp10 324=1076:=by decide
   rw [e3,e2];omega
  ·have:=s2 h0
   omega
 | true=>
  have a := hs;rw [Do,Bool.and_eq_true,decide_eq_true_eq,decide_eq_true_eq] at a;have e:fP r=-skewF (rK r - 1074):=by unfold fP;rw [hs];rfl
  have:=F4 rng_s _ hk;rw [<-e] at this;simp only [rngOk,Bool.or_eq_true,Bool.and_eq_true,decide_eq_true_eq] at this;have:=s2 a.2;omega
theorem cmp_scaled {E y A m c:Nat} (hE:0<E) (hA:0<A) (q:4 * E * m=y * A):(y<=4 * c * E ↔ m<=c * A)/\(y<4 * c * E ↔ m<c * A)/\(4 * c * E<=y ↔ c * A<=m)/\(4 * c * E<y ↔ c * A<m):=by
 have b:0<4 * E:=by omega
 have e:4 * c * E * A=4 * E * (c * A):=by rw [Nat.mul_right_comm 4 c E,Nat.mul_assoc (4 * E)]
 have l1:y<4 * c * E ↔ m<c * A:=by
  constructor
  ·intro h
   refine Nat.lt_of_mul_lt_mul_left (a:=4 * E) ?_;rw [q,<-e];exact Nat.mul_lt_mul_of_pos_right h hA
  ·intro h
   refine Nat.lt_of_mul_lt_mul_right (a:=A) ?_;rw [<-q,e];exact Nat.mul_lt_mul_of_pos_left h b
 have l2:4 * c * E<y ↔ c * A<m:=by
  constructor
  ·intro h
   refine Nat.lt_of_mul_lt_mul_left (a:=4 * E) ?_;rw [q,<-e];exact Nat.mul_lt_mul_of_pos_right h hA
  ·intro h
   refine Nat.lt_of_mul_lt_mul_right (a:=A) ?_;rw [<-q,e];exact Nat.mul_lt_mul_of_pos_left h b
 refine ⟨?_,l1,?_,l2⟩
 ·rw [<-Nat.not_lt,l2,Nat.not_lt]
 ·rw [<-Nat.not_lt,l1,Nat.not_lt]
theorem rel2 {x μ k s sc:Nat} {p:Int} (hs:1<=s) (hx:x * 2 ^ k=μ * 2 ^ (s - 1)) (hsc:(sc:Int)=s+1071 - lp10 p - k) :
  4 * (tD p * (18446744073709551616 * 18446744073709551616) * 2 ^ sc) * (μ * Aq (-p))=x * tN p * (10 ^ (-p).toNat * 2 ^ hp):=by
 refine Nat.eq_of_mul_eq_mul_right (Nat.two_pow_pos k) ?_;unfold Aq tN tD;rw [Int.neg_neg];have e:4 * 2 ^ (lp10 p - 127).toNat * 2 ^ 128 * 2 ^ sc * 2 ^ k=2 ^ (s - 1) * 2 ^ (127 - lp10 p).toNat * 2 ^ hp:=by
  rw [show (4:Nat)=2 ^ 2 by decide,<-Nat.pow_add,<-Nat.pow_add,<-Nat.pow_add,<-Nat.pow_add,<-Nat.pow_add,<-Nat.pow_add];congr 1;have:hp=1075:=rfl;omega
 rw [show (18446744073709551616 * 18446744073709551616:Nat)=2 ^ 128 by decide];generalize 10 ^ (-p).toNat=b at *;generalize 10 ^ p.toNat=a at *;generalize 2 ^ hp=t at *;generalize 2 ^ (lp10 p - 127).toNat=u at *;generalize 2 ^ (127 - lp10 p).toNat=y at *;generalize 2 ^ 128=v at *;generalize 2 ^ sc=S at *;generalize 2 ^ (s - 1)=z at *;generalize 2 ^ k=K at *;have e1:4 * (b * u * v * S) * (μ * a) * K=μ * a * b * (4 * u * v * S * K):=by simp only [Nat.mul_assoc,Nat.mul_left_comm,Nat.mul_comm]
 have e2:x * (a * y) * (b * t) * K=x * K * (a * y * (b * t)):=by simp only [Nat.mul_assoc,Nat.mul_left_comm,Nat.mul_comm]
 rw [e1,e,e2,hx];simp only [Nat.mul_assoc,Nat.mul_left_comm,Nat.mul_comm]
theorem usc_eq {r x:Nat} (h:0<r) (hr:r<9218868437227405312) (hx0:4611686018427387904<=x) (hx1:x<18446744073709551616) (hx9:x % 512=0) :
  usc r x=unr (x * tN (fP r)) (tD (fP r) * (18446744073709551616 * 18446744073709551616) * 2 ^ (fSc r).toNat):=by
 obtain ⟨p0,p1,p2,p3⟩:=E7 h hr;exact uscale_f p0 p1 (by omega) hx0 hx1 hx9
theorem short_iff {r:Nat} (h:0<r) (hr:r<9218868437227405312) (c:Nat):InI r (decA c (-fP r)) (Aq (-fP r)) ↔ fMin r<=c/\c<=fMax r:=by
 obtain ⟨p0,p1,p2,p3⟩:=E7 h hr;obtain ⟨s0,s1,s2,_,_⟩:=D5 h;obtain ⟨⟨l0,l1,l9⟩,_,⟨g0,g1,g9⟩⟩:=x_spec h;obtain ⟨sc,hsc⟩:∃n:Nat,fSc r=n:=⟨(fSc r).toNat,by omega⟩;have q0:=rel2 (sc:=sc) (p:=fP r) (by omega) (xLo_mid h) (by rw [<-hsc];rfl);have q1:=rel2 (sc:=sc) (p:=fP r) (by omega) (xHi_mid h) (by rw [<-hsc];rfl);have u0:=usc_eq h hr l0 l1 l9;have u1:=usc_eq h hr g0 g1 g9;rw [hsc,Int.toNat_natCast] at u0 u1;have hE:0<tD (fP r) * (18446744073709551616 * 18446744073709551616) * 2 ^ sc:=Nat.mul_pos (Nat.mul_pos (Eh _) (by decide)) (Nat.two_pow_pos sc);have hA:0<10 ^ (-fP r).toNat * 2 ^ hp:=Nat.mul_pos (Nat.pow_pos (by decide)) (Nat.two_pow_pos hp);have ho:rM r % 2<=1:=by omega
 have hpar:r % 2=rM r % 2:=by have:=(Ck r).1;omega
 have hmid:0<mid r:=by unfold mid;have:=rv_lt (show r<r+1 by omega);omega
 have hb:0<Aq (-fP r):=Nat.pow_pos (by decide);have hx1:0<xHi r * tN (fP r):=Nat.mul_pos (by omega) (tN_pos _);unfold fMin fMax;rw [u0,u1];have a:decA c (-fP r)=c * (10 ^ (-fP r).toNat * 2 ^ hp):=by unfold decA;rw [Nat.mul_assoc]
 rw [a];generalize tD (fP r) * (18446744073709551616 * 18446744073709551616) * 2 ^ sc=E at *;generalize xLo r * tN (fP r)=y0 at *;generalize xHi r * tN (fP r)=y1 at *;generalize 10 ^ (-fP r).toNat * 2 ^ hp=A at *;generalize Aq (-fP r)=b at *;obtain ⟨k0,k1,_,_⟩:=cmp_scaled (c:=c) hE hA q0;obtain ⟨_,_,k2,k3⟩:=cmp_scaled (c:=c) hE hA q1;have d:1<=unr y1 E:=by
  rcases Nat.eq_zero_or_pos (unr y1 E) with h9 | h9
  ·have:=(Ea (y:=y1) hE).1 (by rw [h9])
   rw [h9] at this;omega
  ·exact h9
 rw [ceil_spec hE ho,floor_spec hE ho d];rw [show InI r (c * A) b ↔ (r=0\/mid (r - 1) * b<c * A\/(mid (r - 1) * b=c * A/\r % 2=0))/\(c * A<mid r * b\/(c * A=mid r * b/\r % 2=0)) from ⟨fun h=>⟨h.low,h.high⟩,fun h=>⟨h.1,h.2⟩⟩];generalize 4 * c * E=z at *;generalize c * A=v at *;generalize mid (r - 1) * b=m0 at *;generalize mid r * b=m1 at *;constructor
 ·intro ⟨a1,a2⟩
  omega
 ·intro ⟨a1,a2⟩
  constructor
  ·omega
  ·omega
def wOk (k:Nat) (p:Int):Bool:=decide (tD p * 2 ^ (1212 - lp10 p - k).toNat<=2048 * tN p) && decide (2048 * tN p<10 * (tD p * 2 ^ (1212 - lp10 p - k).toNat))
theorem w_l:allN 2046 (fun k=>wOk k (-l10p2 (k - 1074)))=true:=by decide +kernel
theorem w_spec {r:Nat} (h:0<r) (hr:r<9218868437227405312) (hs:Do r=false) :
  4 * (tD (fP r) * (18446744073709551616 * 18446744073709551616) * 2 ^ (fSc r).toNat)<=2 ^ fS r * tN (fP r) /\
  2 ^ fS r * tN (fP r)<40 * (tD (fP r) * (18446744073709551616 * 18446744073709551616) * 2 ^ (fSc r).toNat):=by
 obtain ⟨s0,s1,s2,_,_⟩:=D5 h;obtain ⟨p0,p1,p2,p3⟩:=E7 h hr;have hw:=F4 w_l _ (rK_lt hr);have e:fP r=-l10p2 (rK r - 1074):=by unfold fP;rw [hs];rfl
 rw [<-e] at hw;simp only [wOk,Bool.and_eq_true,decide_eq_true_eq] at hw;obtain ⟨w0,w1⟩:=hw;have a:4 * (tD (fP r) * (18446744073709551616 * 18446744073709551616) * 2 ^ (fSc r).toNat)=tD (fP r) * 2 ^ (1212 - lp10 (fP r) - rK r).toNat * 2 ^ (fS r - 11):=by
  rw [show (18446744073709551616 * 18446744073709551616:Nat)=2 ^ 128 by decide,Nat.mul_assoc (tD (fP r)),Nat.mul_assoc (tD (fP r)),Nat.mul_left_comm,show (4:Nat)=2 ^ 2 by decide,<-Nat.pow_add,<-Nat.pow_add,<-Nat.pow_add];congr 2;unfold fSc at *;rcases Nat.eq_zero_or_pos (rK r) with h0 | h0
  ·omega
  ·have:=s2 h0;omega
 have hS:2 ^ fS r=2048 * 2 ^ (fS r - 11):=by rw [show (2048:Nat)=2 ^ 11 by decide,<-Nat.pow_add];congr 1;omega
 have hT:=Nat.two_pow_pos (fS r - 11);rw [hS,show 40 * (tD (fP r) * (18446744073709551616 * 18446744073709551616) * 2 ^ (fSc r).toNat)=10 * (4 * (tD (fP r) * (18446744073709551616 * 18446744073709551616) * 2 ^ (fSc r).toNat)) by rw [<-Nat.mul_assoc 10 4],a];generalize tD (fP r) * 2 ^ (1212 - lp10 (fP r) - rK r).toNat=D at *;generalize tN (fP r)=N at *;generalize 2 ^ (fS r - 11)=T at *;constructor
 ·rw [Nat.mul_right_comm];exact Nat.mul_le_mul_right _ w0
 ·rw [Nat.mul_right_comm,<-Nat.mul_assoc];exact Nat.mul_lt_mul_of_pos_right w1 hT
theorem near_in {r:Nat} (h:0<r) (hr:r<9218868437227405312) (hs:Do r=false):fMin r<=rndU (usc r (xM r))/\rndU (usc r (xM r))<=fMax r:=by
 obtain ⟨s0,s1,s2,_,_⟩:=D5 h;obtain ⟨⟨l0,l1,l9⟩,⟨m0,m1,m9⟩,⟨g0,g1,g9⟩⟩:=x_spec h;obtain ⟨w0,w1⟩:=w_spec h hr hs;have hE:0<tD (fP r) * (18446744073709551616 * 18446744073709551616) * 2 ^ (fSc r).toNat:=Nat.mul_pos (Nat.mul_pos (Eh _) (by decide)) (Nat.two_pow_pos _);have hx1:0<xHi r * tN (fP r):=Nat.mul_pos (by omega) (tN_pos _);have eM:xM r * tN (fP r)=rM r * (2 ^ fS r * tN (fP r)):=by unfold xM;rw [Nat.mul_assoc]
 obtain ⟨p0,_⟩:=Gh s0;have eL:xLo r * tN (fP r)+2 ^ (fS r - 1) * tN (fP r)=xM r * tN (fP r):=by
  rw [<-Nat.add_mul];congr 1;have:xLo r=xM r - 2 ^ (fS r - 1):=by unfold xLo;rw [hs];rfl
  omega
 have eH:xHi r * tN (fP r)=xM r * tN (fP r)+2 ^ (fS r - 1) * tN (fP r):=by rw [<-Nat.add_mul];rfl
 have eW:2 ^ fS r * tN (fP r)=2 * (2 ^ (fS r - 1) * tN (fP r)):=by rw [p0,Nat.mul_assoc]
 have ho:rM r % 2<=1:=by omega
 unfold fMin fMax;rw [usc_eq h hr l0 l1 l9,usc_eq h hr g0 g1 g9,usc_eq h hr m0 m1 m9];generalize tD (fP r) * (18446744073709551616 * 18446744073709551616) * 2 ^ (fSc r).toNat=E at *;generalize xLo r * tN (fP r)=y0 at *;generalize xHi r * tN (fP r)=y1 at *;generalize xM r * tN (fP r)=y at *;generalize 2 ^ (fS r - 1) * tN (fP r)=g at *;generalize 2 ^ fS r * tN (fP r)=W at *;have a:1<=unr y1 E:=by
  rcases Nat.eq_zero_or_pos (unr y1 E) with h9 | h9
  ·have:=(Ea (y:=y1) hE).1 (by rw [h9])
   rw [h9] at this;omega
  ·exact h9
 rw [ceil_spec hE ho,floor_spec hE ho a];obtain ⟨r0,r1,r2⟩:=rndU_spec (y:=y) hE;generalize rndU (unr y E)=c at *;have ec:(4 * c+2) * E=4 * c * E+2 * E:=Nat.add_mul _ _ _;rcases Nat.eq_or_lt_of_le w0 with hw | hw
 ·-- just one unit wide: then the number itself is whole
  rw [<-hw,Nat.mul_left_comm,<-Nat.mul_assoc] at eM;have hc:c=rM r:=by
   have a1:rM r<=c:=by
    rcases Nat.lt_or_ge c (rM r) with h9 | h9
    ·have:(4 * c+4) * E<=4 * rM r * E:=Nat.mul_le_mul_right _ (by omega)
     rw [Nat.add_mul] at this;omega
    ·exact h9
   have a2:c<=rM r:=by
    rcases Nat.lt_or_ge (rM r) c with h9 | h9
    ·have:(4 * rM r+4) * E<=4 * c * E:=Nat.mul_le_mul_right _ (by omega)
     rw [Nat.add_mul] at this;omega
    ·exact h9
   omega
  subst hc;omega
 ·omega
def inIB (r a b:Nat):Bool:=(decide (r=0) || decide (mid (r - 1) * b<a) || (decide (mid (r - 1) * b=a) && decide (r % 2=0))) && (decide (a<mid r * b) || (decide (a=mid r * b) && decide (r % 2=0)))
theorem inIB_ok {r a b:Nat} (h:inIB r a b=true):InI r a b:=by
 simp only [inIB,Bool.and_eq_true,Bool.or_eq_true,decide_eq_true_eq] at h;exact ⟨by omega,by omega⟩
theorem skew_ok:allN 2045 (fun j=>inIB ((j+2) * 4503599627370496) (decA (A5 ((j+2) * 4503599627370496)).1 (A5 ((j+2) * 4503599627370496)).2) (Aq (A5 ((j+2) * 4503599627370496)).2))=true:=by decide +kernel
theorem decA_ten (d:Nat) (p:Int) (r:Nat):InI r (decA (d * 10) p) (Aq p) ↔ InI r (decA d (1+p)) (Aq (1+p)):=by
 unfold decA Aq;rcases Int.lt_or_le p 0 with h | h
 ·-- a tenth less below
  rw [show p.toNat=0 by omega,show (1+p).toNat=0 by omega,show (-p).toNat=(-(1+p)).toNat+1 by omega,Nat.pow_succ,Nat.pow_zero,Nat.mul_one,Nat.mul_one,Nat.mul_right_comm];exact InI.scale (by decide)
 ·rw [show (-p).toNat=0 by omega,show (-(1+p)).toNat=0 by omega,show (1+p).toNat=p.toNat+1 by omega,Nat.pow_succ,Nat.mul_comm (10 ^ p.toNat) 10,Nat.mul_assoc d 10]
theorem short_ok {r:Nat} (h:0<r) (hr:r<9218868437227405312):InI r (decA (A5 r).1 (A5 r).2) (Aq (A5 r).2):=by
 cases hs:Do r with
 | true=>
  have a := hs;rw [Do,Bool.and_eq_true,decide_eq_true_eq,decide_eq_true_eq] at a;have h1:=(Ck r).1;have hk:=rK_lt hr;obtain ⟨j,hj⟩:∃j,rK r=j+1:=⟨rK r - 1,by omega⟩;have b : r=(j+2) * 4503599627370496:=by omega
  have:=F4 skew_ok j (by omega);rw [<-b] at this;exact inIB_ok this
 | false=>
  obtain ⟨n0,n1⟩:=near_in h hr hs;unfold A5;by_cases h1:fMin r<=fMax r / 10 * 10
  ·rw [if_pos h1]
   show InI r (decA (fMax r / 10) (1 - fP r)) (Aq (1 - fP r));rw [Int.sub_eq_add_neg,<-decA_ten,short_iff h hr];omega
  ·rw [if_neg h1]
   by_cases h2:fMin r<fMax r
   ·rw [if_pos h2]
    exact (short_iff h hr _).2 ⟨n0,n1⟩
   ·rw [if_neg h2]
    exact (short_iff h hr _).2 ⟨Nat.le_refl _,by omega⟩
def dv (c:UInt8):Nat:=c.toNat - 48
def isD (c:UInt8):Bool:=decide (48<=c.toNat) && decide (c.toNat<=57)
def valD (l:List UInt8):Nat:=l.foldl (fun a c=>a * 10+dv c) 0
theorem foldl_val (l:List UInt8):∀a:Nat,l.foldl (fun a c=>a * 10+dv c) a=a * 10 ^ l.length+valD l:=by
 induction l with
 | nil=>intro a;simp [valD]
 | cons c l ih=>
  intro a;have e:valD (c :: l)=dv c * 10 ^ l.length+valD l:=by
   show l.foldl (fun a c=>a * 10+dv c) (0 * 10+dv c)=_;rw [ih,Nat.zero_mul,Nat.zero_add]
  rw [List.foldl_cons,ih,e,List.length_cons,Nat.pow_succ,Nat.add_mul,Nat.mul_assoc,Nat.mul_comm 10 (10 ^ l.length)];omega
theorem Df (a b:List UInt8):valD (a++b)=valD a * 10 ^ b.length+valD b:=by
 rw [valD,List.foldl_append,foldl_val];rfl
theorem valD_snoc (a:List UInt8) (c:UInt8):valD (a++[c])=valD a * 10+dv c:=by
 rw [Df];simp [valD]
theorem Dl (c:UInt8) (l:List UInt8):valD (c :: l)=dv c * 10 ^ l.length+valD l:=by
 rw [valD,List.foldl_cons,foldl_val];simp
theorem Gd {c:UInt8} (h:isD c=true):dv c<=9:=by simp [isD] at h;unfold dv;omega
theorem Du:∀{l:List UInt8},(∀c∈l,isD c=true)->valD l<10 ^ l.length
 | [],_=>by simp [valD]
 | c :: l,h=>by
  have h1:=Du (l:=l) (fun x hx=>h x (List.mem_cons_of_mem _ hx));have h2:=Gd (h c (List.mem_cons_self ..));rw [Dl,List.length_cons,Nat.pow_succ];have:dv c * 10 ^ l.length<=9 * 10 ^ l.length:=Nat.mul_le_mul_right _ h2;omega
theorem valD_zeros:∀{l:List UInt8},(∀c∈l,c=48)->valD l=0
 | [],_=>rfl
 | c :: l,h=>by
  rw [Dl,h c (List.mem_cons_self ..),valD_zeros (l:=l) (fun x hx=>h x (List.mem_cons_of_mem _ hx))];simp [dv]
def A1 (l:List UInt8):List UInt8:=l.dropWhile (· == 48)
theorem stripL_snoc_zero {l:List UInt8} (h:A1 l=[]):A1 (l++[48])=[]:=by
 unfold A1 at *;rw [List.dropWhile_append,h];rfl
theorem stripL_snoc {l:List UInt8} {c:UInt8} (h:c≠48\/A1 l≠[]):A1 (l++[c])=A1 l++[c]:=by
 unfold A1 at *;rw [List.dropWhile_append];by_cases h1:l.dropWhile (· == 48)=[]
 ·rcases h with h | h
  ·rw [h1]
   have:(c == 48)=false:=by simpa using h
   simp [List.dropWhile,this]
  ·exact absurd h1 h
 ·cases h2:l.dropWhile (· == 48) with
  | nil=>exact absurd h2 h1
  | cons a b=>simp
theorem C3 (l:List UInt8):(A1 l).length<=l.length:=by
 unfold A1;exact (List.dropWhile_sublist _).length_le
theorem stripL_mem {l:List UInt8} {c:UInt8} (h:c∈A1 l):c∈l:=(List.dropWhile_sublist _).subset h
theorem stripL_head {l:List UInt8} (h:A1 l≠[]):∃c m,A1 l=c :: m/\c≠48:=by
 cases h1:A1 l with
 | nil=>exact absurd h1 h
 | cons c m=>
  refine ⟨c,m,rfl,fun e=>?_⟩;have:=List.head_dropWhile_not (p:=fun x:UInt8=>x == 48) (l:=l) (by unfold A1 at h;exact h);unfold A1 at h1;simp only [h1,List.head_cons] at this;rw [e] at this;simp at this
def ndF (l:List UInt8):Nat:=(A1 l).length
def Av (l:List UInt8):Nat:=valD ((A1 l).take 19)
def Bd (l:List UInt8):Bool:=((A1 l).drop 19).any (· != 48)
theorem ndF_zero {l:List UInt8} (h:ndF l=0):ndF (l++[48])=0/\Av (l++[48])=Av l/\Bd (l++[48])=Bd l:=by
 have h1:A1 l=[]:=List.length_eq_zero_iff.1 h;have h2:=stripL_snoc_zero h1;unfold ndF Av Bd;rw [h1,h2];exact ⟨rfl,rfl,rfl⟩
theorem ndF_snoc {l:List UInt8} {c:UInt8} (h:c≠48\/ndF l≠0):ndF (l++[c])=ndF l+1 /\
  (ndF l<19->Av (l++[c])=Av l * 10+dv c/\Bd (l++[c])=Bd l) /\
  (19<=ndF l->Av (l++[c])=Av l/\Bd (l++[c])=(Bd l || c != 48)):=by
 have h1:A1 (l++[c])=A1 l++[c]:=stripL_snoc (h.imp id (fun h2 h3=>h2 (by unfold ndF;rw [h3];rfl)));unfold ndF Av Bd;rw [h1];refine ⟨by simp,fun h2=>⟨?_,?_⟩,fun h2=>⟨?_,?_⟩⟩
 ·rw [List.take_of_length_le (by simp;omega),List.take_of_length_le (by omega),valD_snoc]
 ·rw [List.drop_of_length_le (by simp;omega),List.drop_of_length_le (by omega)]
 ·rw [List.take_append_of_le_length h2]
 ·rw [List.drop_append_of_le_length h2,List.any_append];simp
theorem mantF_lt {l:List UInt8} (hd:∀c∈l,isD c=true):Av l<10 ^ (min 19 (ndF l)):=by
 unfold Av ndF;have:=Du (l:=(A1 l).take 19) (fun c hc=>hd c (stripL_mem (List.mem_of_mem_take hc)));rwa [List.length_take] at this
theorem mantF_lt19 {l:List UInt8} (hd:∀c∈l,isD c=true):Av l<10000000000000000000:=
 Nat.lt_of_lt_of_le (mantF_lt hd) (Nat.pow_le_pow_right (n:=10) (by decide) (Nat.min_le_left 19 _))
def capE (l:List UInt8):Nat:=l.foldl (fun e c=>if e<10000 then e * 10+dv c else e) 0
theorem Es (l:List UInt8) (c:UInt8):capE (l++[c])=if capE l<10000 then capE l * 10+dv c else capE l:=by
 unfold capE;rw [List.foldl_append];rfl
theorem C9 {l:List UInt8} (hd:∀c∈l,isD c=true):capE l<100000:=by
 have b:∀(l:List UInt8),(∀c∈l,isD c=true)->∀a:Nat,a<100000->l.foldl (fun e c=>if e<10000 then e * 10+dv c else e) a<100000:=by
  intro l;induction l with
  | nil=>intro _ a h;exact h
  | cons c l ih=>
   intro h a ha;refine ih (fun x hx=>h x (List.mem_cons_of_mem _ hx)) _ ?_;have:=Gd (h c (List.mem_cons_self ..));show (if a<10000 then a * 10+dv c else a)<100000;split<;>omega
 exact b l hd 0 (by decide)
def Cg:List UInt8->Bool->List UInt8->Nat->Bool × List UInt8 × Nat × List UInt8
 | [],d,L,m=>(d,L,m,[])
 | c :: l,d,L,m=>if c.toNat=46 then (if d then (d,L,m,c :: l) else Cg l true L 0) else if isD c then Cg l d (L++[c]) (m+1) else (d,L,m,c :: l)
theorem Ek:∀{l:List UInt8} {d:Bool} {L:List UInt8} {m:Nat} {d' : Bool} {L' : List UInt8} {m' : Nat} {r:List UInt8},Cg l d L m=(d', L', m', r)->∃p,l=p++r
 | [],d,L,m,d', L', m', r,h=>by
  simp only [Cg,Prod.mk.injEq] at h;exact ⟨[],by rw [<-h.2.2.2];rfl⟩
 | c :: l,d,L,m,d', L', m', r,h=>by
  rw [Cg] at h;split at h
  ·split at h
   ·simp only [Prod.mk.injEq] at h
    exact ⟨[],by rw [<-h.2.2.2];rfl⟩
   ·obtain ⟨p,hp⟩:=Ek h
    exact ⟨c :: p,by rw [hp];rfl⟩
  ·split at h
   ·obtain ⟨p,hp⟩:=Ek h
    exact ⟨c :: p,by rw [hp];rfl⟩
   ·simp only [Prod.mk.injEq] at h
    exact ⟨[],by rw [<-h.2.2.2];rfl⟩
theorem En:∀{D:List UInt8} {l:List UInt8} {d:Bool} {L:List UInt8} {m:Nat},(∀c∈D,isD c=true)->Cg (D++l) d L m=Cg l d (L++D) (m+D.length)
 | [],l,d,L,m,_=>by simp
 | c :: D,l,d,L,m,h=>by
  have hc:=h c (List.mem_cons_self ..);have h46:c.toNat≠46:=fun e=>by simp [isD,e] at hc
  rw [List.cons_append,Cg,if_neg h46,if_pos hc,En (fun x hx=>h x (List.mem_cons_of_mem _ hx)),List.append_assoc,List.length_cons];congr 1;omega
theorem Dq:∀{l:List UInt8} {d:Bool} {L:List UInt8} {m:Nat} {d' : Bool} {L' : List UInt8} {m' : Nat} {r:List UInt8},Cg l d L m=(d', L', m', r)->L'.length<=L.length+l.length/\m' <= m+l.length
 | [],d,L,m,d', L', m', r,h=>by
  simp only [Cg,Prod.mk.injEq] at h;rw [<-h.2.1,<-h.2.2.1];simp
 | c :: l,d,L,m,d', L', m', r,h=>by
  rw [Cg] at h;split at h
  ·split at h
   ·simp only [Prod.mk.injEq] at h
    rw [<-h.2.1,<-h.2.2.1];simp
   ·have:=Dq h
    simp only [List.length_cons];omega
  ·split at h
   ·have:=Dq h
    simp only [List.length_append,List.length_cons,List.length_nil] at this ⊢;omega
   ·simp only [Prod.mk.injEq] at h
    rw [<-h.2.1,<-h.2.2.1];simp
def okC (c:UInt8):Prop:=isD c=true\/c.toNat=46\/c.toNat=101\/c.toNat=43\/c.toNat=45
theorem okC_low {c:UInt8} (h:okC c):c.toNat≠120/\c.toNat≠88/\c.toNat≠95/\c.toNat≠69:=by
 rcases h with h | h | h | h | h
 ·simp [isD] at h;omega
 all_goals omega
inductive ExpAt:List UInt8->Int->Prop
 | none:ExpAt [] 0
 | bare {E:List UInt8}:E≠[]->(∀c∈E,isD c=true)->ExpAt (101 :: E) (capE E)
 | plus {E:List UInt8}:E≠[]->(∀c∈E,isD c=true)->ExpAt (101 :: 43 :: E) (capE E)
 | minus {E:List UInt8}:E≠[]->(∀c∈E,isD c=true)->ExpAt (101 :: 45 :: E) (-(capE E:Int))
structure FTxt (s:ByteArray) (neg:Bool) (d:Bool) (L:List UInt8) (m:Nat) (x:Int):Prop where
 form:∃c body rest,s.data.toList=(if neg then [45] else [])++c :: body/\isD c=true/\Cg (c :: body) false [] 0=(d,L,m,rest)/\ExpAt rest x/\(∀b∈c :: body,okC b)
 size:s.size<=1000
 ne:L≠[]
def expF (d:Bool) (L:List UInt8) (m:Nat) (x:Int):Int:=if Av L=0 then 0 else (if d then (ndF L:Int) - m else ndF L)+x - (min 19 (ndF L):Nat)
