/- Floats of 64 bits as natural numbers: no number, one row of all (no program in sight). -/
import Derived.Laws.FloatArith
namespace Go.Proofs.YteoalcmhdoopnaaGreatDoor
open Ieee
def nanF (n:Nat):Bool:=decide (9218868437227405312<n % 9223372036854775808)
def sv (n:Nat):Int:=if 9223372036854775808<=n then -((n - 9223372036854775808:Nat):Int) else n
def rv (r:Nat):Nat:=if r<4503599627370496 then r else (4503599627370496+r % 4503599627370496) * 2 ^ (r / 4503599627370496 - 1)
theorem rv_lt {r s:Nat} (h:r<s):rv r<rv s:=by
 unfold rv;by_cases h2:s<4503599627370496
 · rw [if_pos (by omega),if_pos h2];exact h
 · rw [if_neg h2]
   obtain ⟨q', hq'⟩:∃q', s / 4503599627370496=q' + 1:=⟨s / 4503599627370496 - 1,by omega⟩;have hp:=Nat.two_pow_pos q';by_cases h1:r<4503599627370496
   · rw [if_pos h1,hq', Nat.add_sub_cancel]
     have:=Nat.le_mul_of_pos_right (4503599627370496+s % 4503599627370496) hp;omega
   · rw [if_neg h1]
     obtain ⟨q,hq⟩:∃q,r / 4503599627370496=q+1:=⟨r / 4503599627370496 - 1,by omega⟩;rw [hq,hq', Nat.add_sub_cancel,Nat.add_sub_cancel];by_cases hqq:q=q'
     · subst hqq
       exact Nat.mul_lt_mul_of_pos_right (by omega) hp
     · have hlt:q<q' := by omega
       have h3:2 ^ (q+1)<=2 ^ q' := Nat.pow_le_pow_right (by omega) hlt;have h4:(4503599627370496+r % 4503599627370496) * 2 ^ q<9007199254740992 * 2 ^ q:=Nat.mul_lt_mul_of_pos_right (by omega) (Nat.two_pow_pos q);have h5:9007199254740992 * 2 ^ q=4503599627370496 * 2 ^ (q+1):=by rw [Nat.pow_succ];omega
       have h6:4503599627370496 * 2 ^ (q+1)<=4503599627370496 * 2 ^ q' := Nat.mul_le_mul_left _ h3;have h7:4503599627370496 * 2 ^ q' <= (4503599627370496+s % 4503599627370496) * 2 ^ q' := Nat.mul_le_mul_right _ (by omega);omega
theorem rv_pos {r:Nat}:rv r=0 ↔ r=0:=by
 constructor
 · intro h
   rcases Nat.eq_zero_or_pos r with h1 | h1
   · exact h1
   · have:=rv_lt h1;omega
 · rintro rfl;rfl
def sgn (s:Bool) (r:Nat):Int:=if s then -(r:Int) else r
theorem sgn_cmp (s t:Bool) (a b:Nat):compare (sgn s (rv a)) (sgn t (rv b))=compare (sgn s a) (sgn t b):=by
 have h0:=@rv_pos a;have h1:=@rv_pos b;rcases Nat.lt_trichotomy a b with h | h | h
 · have:=rv_lt h
   cases s<;>cases t<;>simp only [sgn,Bool.false_eq_true,if_true,if_false]
   · rw [Int.compare_eq_lt.2 (by omega),Int.compare_eq_lt.2 (by omega)]
   · rw [Int.compare_eq_gt.2 (by omega),Int.compare_eq_gt.2 (by omega)]
   · rw [Int.compare_eq_lt.2 (by omega),Int.compare_eq_lt.2 (by omega)]
   · rw [Int.compare_eq_gt.2 (by omega),Int.compare_eq_gt.2 (by omega)]
 · subst h
   rcases Nat.eq_zero_or_pos a with h2 | h2
   · subst h2;cases s<;>cases t<;>rfl
   · have h3:0<rv a:=by
       rcases Nat.eq_zero_or_pos (rv a) with h4 | h4
       · rw [h0] at h4;omega
       · exact h4
     cases s<;>cases t<;>simp only [sgn,Bool.false_eq_true,if_true,if_false]
     · rw [Int.compare_eq_eq.2 rfl,Int.compare_eq_eq.2 rfl]
     · rw [Int.compare_eq_gt.2 (by omega),Int.compare_eq_gt.2 (by omega)]
     · rw [Int.compare_eq_lt.2 (by omega),Int.compare_eq_lt.2 (by omega)]
     · rw [Int.compare_eq_eq.2 rfl,Int.compare_eq_eq.2 rfl]
 · have:=rv_lt h
   cases s<;>cases t<;>simp only [sgn,Bool.false_eq_true,if_true,if_false]
   · rw [Int.compare_eq_gt.2 (by omega),Int.compare_eq_gt.2 (by omega)]
   · rw [Int.compare_eq_gt.2 (by omega),Int.compare_eq_gt.2 (by omega)]
   · rw [Int.compare_eq_lt.2 (by omega),Int.compare_eq_lt.2 (by omega)]
   · rw [Int.compare_eq_lt.2 (by omega),Int.compare_eq_lt.2 (by omega)]
theorem cmp_mul (a b:Int) {k:Int} (hk:0<k):compare (a * k) (b * k)=compare a b:=by
 rcases Int.lt_trichotomy a b with h | h | h
 · rw [Int.compare_eq_lt.2 h,Int.compare_eq_lt.2 (Int.mul_lt_mul_of_pos_right h hk)]
 · subst h;rw [Int.compare_eq_eq.2 rfl,Int.compare_eq_eq.2 rfl]
 · rw [Int.compare_eq_gt.2 h,Int.compare_eq_gt.2 (Int.mul_lt_mul_of_pos_right h hk)]
def negF (n:Nat):Bool:=n / 9223372036854775808 % 2 == 1
theorem sv_sgn {n:Nat} (h:n<18446744073709551616):sv n=sgn (negF n) (n % 9223372036854775808):=by
 unfold sv sgn negF;by_cases h1:9223372036854775808<=n
 · rw [if_pos h1,if_pos (by simp;omega)];omega
 · rw [if_neg h1,if_neg (by simp;omega)];omega
theorem Ax:Ieee.double.leastPlace=-1074:=by decide
theorem Bk:Ieee.double.infRung=9218868437227405312:=by decide
theorem binade:Ieee.double.binade=4503599627370496:=by decide
theorem Av:Ieee.double.signWeight=9223372036854775808:=by decide
theorem Bl {n:Nat} (h:n % 9223372036854775808<9218868437227405312) :
   ∃m p,Ieee.double.read n=.number (negF n) m p/\(-1074:Int)<=p/\m * 2 ^ (p+1074).toNat=rv (n % 9223372036854775808):=by
 unfold Ieee.Format.read
 simp only [Av,binade,Bk,Ax]
 by_cases h1:n % 9223372036854775808<4503599627370496
 · rw [if_pos h1]
   refine ⟨_,_,rfl,by omega,?_⟩;rw [rv,if_pos h1];show _ * 2 ^ 0=_;rw [Nat.pow_zero,Nat.mul_one]
 · rw [if_neg h1,if_pos h]
   refine ⟨_,_,rfl,by omega,?_⟩;rw [rv,if_neg h1];congr 2;omega
theorem Bh {n:Nat} (h:n % 9223372036854775808=9218868437227405312):Ieee.double.read n=.infinity (negF n):=by
 unfold Ieee.Format.read;simp only [Av,binade,Bk,Ax];rw [if_neg (by omega),if_neg (by omega),if_pos h];rfl
theorem read_nan {n:Nat} (h:9218868437227405312<n % 9223372036854775808):∃s t,Ieee.double.read n=.nan s t:=by
 unfold Ieee.Format.read;simp only [Av,binade,Bk,Ax];rw [if_neg (by omega),if_neg (by omega),if_neg (by omega)];exact ⟨_,_,rfl⟩
theorem order_nan {x y:Nat} (h:nanF x=true\/nanF y=true):Ieee.double.order x y=none:=by
 unfold Ieee.Format.order;rcases h with h | h
 · obtain ⟨s,t,e⟩:=read_nan (of_decide_eq_true h)
   rw [e];rfl
 · obtain ⟨s,t,e⟩:=read_nan (of_decide_eq_true h)
   rw [e];cases Ieee.double.read x<;>rfl
theorem Bm (s:Bool) (m:Nat) (i b:Int) (hb:b<=i) (h0:-1074<=b):Ieee.signed s m (i - b).toNat * (2 ^ (b+1074).toNat:Nat)=sgn s (m * 2 ^ (i+1074).toNat):=by
 have e:(i+1074).toNat=(i - b).toNat+(b+1074).toNat:=by omega
 unfold Ieee.signed sgn;rw [e,Nat.pow_add,Nat.shiftLeft_eq,<-Nat.mul_assoc];cases s<;>simp only [Bool.false_eq_true,if_true,if_false]
 · simp only [Int.natCast_mul]
 · rw [Int.natCast_mul (m * 2 ^ (i - b).toNat),Int.neg_mul]
theorem order_sv {x y:Nat} (hx:x<18446744073709551616) (hy:y<18446744073709551616) (nx:nanF x=false) (ny:nanF y=false):Ieee.double.order x y=some (compare (sv x) (sv y)):=by
 have nx:=of_decide_eq_false nx;have ny:=of_decide_eq_false ny;rw [sv_sgn hx,sv_sgn hy];unfold Ieee.Format.order;have lx:=Nat.mod_lt x (show 0<9223372036854775808 by decide);have ly:=Nat.mod_lt y (show 0<9223372036854775808 by decide);rcases Nat.lt_or_ge (x % 9223372036854775808) 9218868437227405312 with fx | fx
 · obtain ⟨m,i,ex,hi,hm⟩:=Bl fx
   rw [ex];rcases Nat.lt_or_ge (y % 9223372036854775808) 9218868437227405312 with fy | fy
   · obtain ⟨n,j,ey,hj,hn⟩:=Bl fy
     rw [ey];simp only [Ieee.Datum.order];rw [<-sgn_cmp,<-hm,<-hn,<-cmp_mul _ _ (k:=((2 ^ (min i j+1074).toNat:Nat):Int)) (by have:=Nat.two_pow_pos (min i j+1074).toNat;omega)];rw [Bm _ _ _ _ (by omega) (by omega),Bm _ _ _ _ (by omega) (by omega)]
   · rw [Bh (by omega:y % 9223372036854775808=9218868437227405312)]
     have:y % 9223372036854775808=9218868437227405312:=by omega
     rw [this];cases negF x<;>cases negF y<;>simp only [Ieee.Datum.order,sgn,Bool.false_eq_true,if_true,if_false]
     · rw [Int.compare_eq_lt.2 (by omega)]
     · rw [Int.compare_eq_gt.2 (by omega)]
     · rw [Int.compare_eq_lt.2 (by omega)]
     · rw [Int.compare_eq_gt.2 (by omega)]
 · rw [Bh (by omega:x % 9223372036854775808=9218868437227405312)]
   have e1:x % 9223372036854775808=9218868437227405312:=by omega
   rw [e1];rcases Nat.lt_or_ge (y % 9223372036854775808) 9218868437227405312 with fy | fy
   · obtain ⟨n,j,ey,hj,hn⟩:=Bl fy
     rw [ey];cases negF x<;>cases negF y<;>simp only [Ieee.Datum.order,sgn,Bool.false_eq_true,if_true,if_false]
     · rw [Int.compare_eq_gt.2 (by omega)]
     · rw [Int.compare_eq_gt.2 (by omega)]
     · rw [Int.compare_eq_lt.2 (by omega)]
     · rw [Int.compare_eq_lt.2 (by omega)]
   · rw [Bh (by omega:y % 9223372036854775808=9218868437227405312)]
     have e2:y % 9223372036854775808=9218868437227405312:=by omega
     rw [e2];cases negF x<;>cases negF y<;>simp [Ieee.Datum.order,sgn]<;>rfl
theorem order_self {x:Nat} (hx:x<18446744073709551616):(Ieee.double.order x x == some .eq)=!(nanF x):=by
 cases h:nanF x with
 | true=>rw [order_nan (.inl h)];rfl
 | false=>rw [order_sv hx hx h h,Int.compare_eq_eq.2 rfl];rfl
end Go.Proofs.YteoalcmhdoopnaaGreatDoor
