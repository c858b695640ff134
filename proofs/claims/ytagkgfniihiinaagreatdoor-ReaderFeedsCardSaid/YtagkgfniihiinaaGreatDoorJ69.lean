/- Floats of 64 bits as natural numbers: no number, one row of all (no program in sight). -/
import Derived.Laws.FloatArith
import Derived.Test.YtagkgfniihiinaaGreatDoorJ48
import Derived.Test.YtagkgfniihiinaaGreatDoorJ50
import Derived.Test.YtagkgfniihiinaaGreatDoorProg
set_option linter.all false
namespace Go.Proofs.YtagkgfniihiinaaGreatDoor
open Ieee
def nanC:Nat:=9221120237041090561
def nanF (n:Nat):Bool:=decide (9218868437227405312<n % 9223372036854775808)
def Gh (n:Nat):Nat:=if nanF n then nanC else n
def sv (n:Nat):Int:=if 9223372036854775808<=n then -((n - 9223372036854775808:Nat):Int) else n
def rv (r:Nat):Nat:=if r<4503599627370496 then r else (4503599627370496+r % 4503599627370496) * 2 ^ (r / 4503599627370496 - 1)
theorem Gb {r s:Nat} (h:r<s):rv r<rv s:=by
 unfold rv;by_cases h2:s<4503599627370496
 · rw [if_pos (by omega),if_pos h2];exact h
 · rw [if_neg h2]
   obtain ⟨q', hq'⟩:∃q', s / 4503599627370496=q' + 1:=⟨s / 4503599627370496 - 1,by omega⟩;have hp:=Nat.two_pow_pos q';by_cases h1:r<4503599627370496
   · rw [if_pos h1,hq', Nat.add_sub_cancel]
     have:=Nat.le_mul_of_pos_right (4503599627370496+s % 4503599627370496) hp;omega
   · rw [if_neg h1]
     obtain ⟨q,hq⟩:∃q,r / 4503599627370496=q+1:=⟨r / 4503599627370496 - 1,by omega⟩;rw [hq,hq', Nat.add_sub_cancel,Nat.add_sub_cancel];by_cases hqq:q=q'
     · subst hqq
       exact Nat.mul_lt_mul_of_pos_right (by omega) hp
     · have hlt:q<q' := by omega
       have h3:2 ^ (q+1)<=2 ^ q' := Nat.pow_le_pow_right (by omega) hlt;have h4:(4503599627370496+r % 4503599627370496) * 2 ^ q<9007199254740992 * 2 ^ q:=Nat.mul_lt_mul_of_pos_right (by omega) (Nat.two_pow_pos q);have h5:9007199254740992 * 2 ^ q=4503599627370496 * 2 ^ (q+1):=by rw [Nat.pow_succ];omega
       have h6:4503599627370496 * 2 ^ (q+1)<=4503599627370496 * 2 ^ q' := Nat.mul_le_mul_left _ h3;have h7:4503599627370496 * 2 ^ q' <= (4503599627370496+s % 4503599627370496) * 2 ^ q' := Nat.mul_le_mul_right _ (by omega);omega
theorem rv_cmp (r s:Nat):compare (rv r:Int) (rv s:Int)=compare (r:Int) (s:Int):=by
 rcases Nat.lt_trichotomy r s with h | h | h
 · have:=Gb h
   rw [Int.compare_eq_lt.2 (by omega),Int.compare_eq_lt.2 (by omega)]
 · subst h;simp
 · have:=Gb h
   rw [Int.compare_eq_gt.2 (by omega),Int.compare_eq_gt.2 (by omega)]
theorem Fd {r:Nat}:rv r=0 ↔ r=0:=by
 constructor
 · intro h
   rcases Nat.eq_zero_or_pos r with h1 | h1
   · exact h1
   · have:=Gb h1;omega
 · rintro rfl;rfl
def sgn (s:Bool) (r:Nat):Int:=if s then -(r:Int) else r
theorem sgn_cmp (s t:Bool) (a b:Nat):compare (sgn s (rv a)) (sgn t (rv b))=compare (sgn s a) (sgn t b):=by
 have h0:=@Fd a;have h1:=@Fd b;rcases Nat.lt_trichotomy a b with h | h | h
 · have:=Gb h
   cases s<;>cases t<;>simp only [sgn,Bool.false_eq_true,if_true,if_false]
   · rw [Int.compare_eq_lt.2 (by omega),Int.compare_eq_lt.2 (by omega)]
   · rw [Int.compare_eq_gt.2 (by omega),Int.compare_eq_gt.2 (by omega)]
   · rw [Int.compare_eq_lt.2 (by omega),Int.compare_eq_lt.2 (by omega)]
   · rw [Int.compare_eq_gt.2 (by omega),Int.compare_eq_gt.2 (by omega)]
 · subst h
   rcases Nat.eq_zero_or_pos a with h2 | h2
   · subst h2;cases s<;>cases t<;>rfl
   · have h3:0<rv a:=by
       rcases Nat.eq_zero_or_pos (rv a) with h4 | h4
       · rw [h0] at h4;omega
       · exact h4
     cases s<;>cases t<;>simp only [sgn,Bool.false_eq_true,if_true,if_false]
     · rw [Int.compare_eq_eq.2 rfl,Int.compare_eq_eq.2 rfl]
     · rw [Int.compare_eq_gt.2 (by omega),Int.compare_eq_gt.2 (by omega)]
     · rw [Int.compare_eq_lt.2 (by omega),Int.compare_eq_lt.2 (by omega)]
     · rw [Int.compare_eq_eq.2 rfl,Int.compare_eq_eq.2 rfl]
 · have:=Gb h
   cases s<;>cases t<;>simp only [sgn,Bool.false_eq_true,if_true,if_false]
   · rw [Int.compare_eq_gt.2 (by omega),Int.compare_eq_gt.2 (by omega)]
   · rw [Int.compare_eq_gt.2 (by omega),Int.compare_eq_gt.2 (by omega)]
   · rw [Int.compare_eq_lt.2 (by omega),Int.compare_eq_lt.2 (by omega)]
   · rw [Int.compare_eq_lt.2 (by omega),Int.compare_eq_lt.2 (by omega)]
theorem cmp_mul (a b:Int) {k:Int} (hk:0<k):compare (a * k) (b * k)=compare a b:=by
 rcases Int.lt_trichotomy a b with h | h | h
 · rw [Int.compare_eq_lt.2 h,Int.compare_eq_lt.2 (Int.mul_lt_mul_of_pos_right h hk)]
 · subst h;rw [Int.compare_eq_eq.2 rfl,Int.compare_eq_eq.2 rfl]
 · rw [Int.compare_eq_gt.2 h,Int.compare_eq_gt.2 (Int.mul_lt_mul_of_pos_right h hk)]
def negF (n:Nat):Bool:=n / 9223372036854775808 % 2 == 1
theorem sv_sgn {n:Nat} (h:n<18446744073709551616):sv n=sgn (negF n) (n % 9223372036854775808):=by
 unfold sv sgn negF;by_cases h1:9223372036854775808<=n
 · rw [if_pos h1,if_pos (by simp;omega)];omega
 · rw [if_neg h1,if_neg (by simp;omega)];omega
theorem D1:Ieee.double.leastPlace=-1074:=by decide
theorem inf_rung:Ieee.double.infRung=9218868437227405312:=by decide
theorem binade:Ieee.double.binade=4503599627370496:=by decide
theorem Ea:Ieee.double.signWeight=9223372036854775808:=by decide
theorem Cm {n:Nat} (h:n % 9223372036854775808<9218868437227405312) :
   ∃m p,Ieee.double.read n=.number (negF n) m p/\(-1074:Int)<=p/\m * 2 ^ (p+1074).toNat=rv (n % 9223372036854775808):=by
 unfold Ieee.Format.read
 simp only [Ea,binade,inf_rung,D1]
 by_cases h1:n % 9223372036854775808<4503599627370496
 · rw [if_pos h1]
   refine ⟨_,_,rfl,by omega,?_⟩;rw [rv,if_pos h1];show _ * 2 ^ 0=_;rw [Nat.pow_zero,Nat.mul_one]
 · rw [if_neg h1,if_pos h]
   refine ⟨_,_,rfl,by omega,?_⟩;rw [rv,if_neg h1];congr 2;omega
theorem read_inf {n:Nat} (h:n % 9223372036854775808=9218868437227405312):Ieee.double.read n=.infinity (negF n):=by
 unfold Ieee.Format.read;simp only [Ea,binade,inf_rung,D1];rw [if_neg (by omega),if_neg (by omega),if_pos h];rfl
theorem read_nan {n:Nat} (h:9218868437227405312<n % 9223372036854775808):∃s t,Ieee.double.read n=.nan s t:=by
 unfold Ieee.Format.read;simp only [Ea,binade,inf_rung,D1];rw [if_neg (by omega),if_neg (by omega),if_neg (by omega)];exact ⟨_,_,rfl⟩
theorem order_nan {x y:Nat} (h:nanF x=true\/nanF y=true):Ieee.double.order x y=none:=by
 unfold Ieee.Format.order;rcases h with h | h
 · obtain ⟨s,t,e⟩:=read_nan (of_decide_eq_true h)
   rw [e];rfl
 · obtain ⟨s,t,e⟩:=read_nan (of_decide_eq_true h)
   rw [e];cases Ieee.double.read x<;>rfl
theorem signed_mul (s:Bool) (m:Nat) (i b:Int) (hb:b<=i) (h0:-1074<=b):Ieee.signed s m (i - b).toNat * (2 ^ (b+1074).toNat:Nat)=sgn s (m * 2 ^ (i+1074).toNat):=by
 have e:(i+1074).toNat=(i - b).toNat+(b+1074).toNat:=by omega
 unfold Ieee.signed sgn;rw [e,Nat.pow_add,Nat.shiftLeft_eq,<-Nat.mul_assoc];cases s<;>simp only [Bool.false_eq_true,if_true,if_false]
 · simp only [Int.natCast_mul]
 · rw [Int.natCast_mul (m * 2 ^ (i - b).toNat),Int.neg_mul]
theorem order_sv {x y:Nat} (hx:x<18446744073709551616) (hy:y<18446744073709551616) (nx:nanF x=false) (ny:nanF y=false):Ieee.double.order x y=some (compare (sv x) (sv y)):=by
 have nx:=of_decide_eq_false nx;have ny:=of_decide_eq_false ny;rw [sv_sgn hx,sv_sgn hy];unfold Ieee.Format.order;have lx:=Nat.mod_lt x (show 0<9223372036854775808 by decide);have ly:=Nat.mod_lt y (show 0<9223372036854775808 by decide);rcases Nat.lt_or_ge (x % 9223372036854775808) 9218868437227405312 with fx | fx
 · obtain ⟨m,i,ex,hi,hm⟩:=Cm fx
   rw [ex];rcases Nat.lt_or_ge (y % 9223372036854775808) 9218868437227405312 with fy | fy
   · obtain ⟨n,j,ey,hj,hn⟩:=Cm fy
     rw [ey];simp only [Ieee.Datum.order];rw [<-sgn_cmp,<-hm,<-hn,<-cmp_mul _ _ (k:=((2 ^ (min i j+1074).toNat:Nat):Int)) (by have:=Nat.two_pow_pos (min i j+1074).toNat;omega)];rw [signed_mul _ _ _ _ (by omega) (by omega),signed_mul _ _ _ _ (by omega) (by omega)]
   · rw [read_inf (by omega:y % 9223372036854775808=9218868437227405312)]
     have:y % 9223372036854775808=9218868437227405312:=by omega
     rw [this];cases negF x<;>cases negF y<;>simp only [Ieee.Datum.order,sgn,Bool.false_eq_true,if_true,if_false]
     · rw [Int.compare_eq_lt.2 (by omega)]
     · rw [Int.compare_eq_gt.2 (by omega)]
     · rw [Int.compare_eq_lt.2 (by omega)]
     · rw [Int.compare_eq_gt.2 (by omega)]
 · rw [read_inf (by omega:x % 9223372036854775808=9218868437227405312)]
   have e1:x % 9223372036854775808=9218868437227405312:=by omega
   rw [e1];rcases Nat.lt_or_ge (y % 9223372036854775808) 9218868437227405312 with fy | fy
   · obtain ⟨n,j,ey,hj,hn⟩:=Cm fy
     rw [ey];cases negF x<;>cases negF y<;>simp only [Ieee.Datum.order,sgn,Bool.false_eq_true,if_true,if_false]
     · rw [Int.compare_eq_gt.2 (by omega)]
     · rw [Int.compare_eq_gt.2 (by omega)]
     · rw [Int.compare_eq_lt.2 (by omega)]
     · rw [Int.compare_eq_lt.2 (by omega)]
   · rw [read_inf (by omega:y % 9223372036854775808=9218868437227405312)]
     have e2:y % 9223372036854775808=9218868437227405312:=by omega
     rw [e2];cases negF x<;>cases negF y<;>simp [Ieee.Datum.order,sgn]<;>rfl
theorem order_self {x:Nat} (hx:x<18446744073709551616):(Ieee.double.order x x == some .eq)=!(nanF x):=by
 cases h:nanF x with
 | true=>rw [order_nan (.inl h)];rfl
 | false=>rw [order_sv hx hx h h,Int.compare_eq_eq.2 rfl];rfl
theorem canon_nan (n:Nat):Gh n=nanC ↔ nanF n=true:=by
 unfold Gh nanF nanC;by_cases h:9218868437227405312<n % 9223372036854775808
 · simp [h]
 · simp only [h,decide_false,Bool.false_eq_true,if_false,iff_false]
   rintro rfl;omega
end Go.Proofs.YtagkgfniihiinaaGreatDoor
namespace Go.Proofs.YtagkgfniihiinaaGreatDoor
theorem unr_spec {y E:Nat} (hE:0<E):(unr y E % 2=0->y=unr y E * E)/\(unr y E % 2=1->(unr y E - 1) * E<y/\y<(unr y E+1) * E):=by
 have h:=Nat.div_add_mod y E;have h2:=Nat.mod_lt y hE;obtain ⟨q,hq⟩:∃q,q=y / E:=⟨_,rfl⟩;obtain ⟨t,ht⟩:∃t,t=y % E:=⟨_,rfl⟩;rw [<-hq,<-ht] at h;rw [<-ht] at h2;unfold unr;rw [<-hq,<-ht];rw [Nat.mul_comm] at h;clear hq ht;by_cases h0:t=0
 · subst h0
   rw [show decide ((0:Nat)≠0)=false by rfl];show (q % 2=0->y=q * E)/\(q % 2=1->(q - 1) * E<y/\y<(q+1) * E);refine ⟨fun _=>by omega,fun hq=>?_⟩;have e1:q * E=(q - 1) * E+E:=by rw [<-Nat.succ_mul];congr 1;omega
   have e2:(q+1) * E=q * E+E:=Nat.succ_mul _ _;omega
 · rw [show decide (t≠0)=true by simpa using h0]
   show ((q / 2 * 2+1) % 2=0->_)/\(_->(q / 2 * 2+1 - 1) * E<y/\y<(q / 2 * 2+1+1) * E);refine ⟨fun h=>by omega,fun _=>?_⟩;rw [Nat.add_sub_cancel];have l1:q / 2 * 2 * E<=q * E:=Nat.mul_le_mul_right _ (by omega);have l2:(q+1) * E<=(q / 2 * 2+1+1) * E:=Nat.mul_le_mul_right _ (by omega);rw [Nat.succ_mul] at l2;omega
def rndU (u:Nat):Nat:=(u+1+u / 4 % 2) / 4
theorem rndU_spec {y E:Nat} (hE:0<E):y<=(4 * rndU (unr y E)+2) * E/\4 * rndU (unr y E) * E<=y+2 * E/\(y=(4 * rndU (unr y E)+2) * E\/4 * rndU (unr y E) * E=y+2 * E->rndU (unr y E) % 2=0):=by
 obtain ⟨s0,s1⟩:=unr_spec (y:=y) hE;obtain ⟨u,hu⟩:∃u,u=unr y E:=⟨_,rfl⟩;rw [<-hu] at s0 s1 ⊢;obtain ⟨m,hm⟩:∃m,m=rndU u:=⟨_,rfl⟩;have hm' := hm;unfold rndU at hm';rw [<-hm];clear hu hm;have em:(4 * m+2) * E=4 * m * E+2 * E:=Nat.add_mul _ _ _;rcases (show u % 4=0\/u % 4=1\/u % 4=2\/u % 4=3 by omega) with h | h | h | h
 · have hy:=s0 (by omega)
   obtain rfl:u=4 * m:=by omega
   omega
 · obtain ⟨h1,h2⟩:=s1 (by omega)
   obtain rfl:u=4 * m+1:=by omega
   rw [Nat.add_sub_cancel] at h1;rw [show 4 * m+1+1=4 * m+2 by omega] at h2;omega
 · have hy:=s0 (by omega)
   by_cases hp:u / 4 % 2=0
   · obtain rfl:u=4 * m+2:=by omega
     have:m % 2=0:=by omega
     omega
   · obtain ⟨k,rfl⟩:∃k,m=k+1:=⟨m - 1,by omega⟩
     obtain rfl:u=4 * k+2:=by omega
     have e1:4 * (k+1) * E=4 * k * E+4 * E:=by rw [Nat.mul_add,Nat.add_mul]
     have e2:(4 * k+2) * E=4 * k * E+2 * E:=Nat.add_mul _ _ _;have:(k+1) % 2=0:=by omega
     omega
 · obtain ⟨h1,h2⟩:=s1 (by omega)
   obtain ⟨k,rfl⟩:∃k,m=k+1:=⟨m - 1,by omega⟩;obtain rfl:u=4 * k+3:=by omega
   have e1:4 * (k+1) * E=4 * k * E+4 * E:=by rw [Nat.mul_add,Nat.add_mul]
   have e2:(4 * k+3 - 1) * E=4 * k * E+2 * E:=by rw [show 4 * k+3 - 1=4 * k+2 by omega,Nat.add_mul]
   have e3:(4 * k+3+1) * E=4 * k * E+4 * E:=by rw [show 4 * k+3+1=4 * k+4 by omega,Nat.add_mul]
   omega
def mid (r:Nat):Nat:=rv r+rv (r+1)
theorem mid_lt {r s:Nat} (h:r<s):mid r<mid s:=by
 have:=Gb h;have:=Gb (show r+1<s+1 by omega);unfold mid;omega
theorem mid_le {r s:Nat} (h:r<=s):mid r<=mid s:=by
 rcases Nat.eq_or_lt_of_le h with h | h
 · rw [h];exact Nat.le_refl _
 · exact Nat.le_of_lt (mid_lt h)
structure InI (r a b:Nat):Prop where
 low:r=0\/mid (r - 1) * b<a\/(mid (r - 1) * b=a/\r % 2=0)
 high:a<mid r * b\/(a=mid r * b/\r % 2=0)
theorem InI.uniq {r r' a b:Nat} (hb:0<b) (h:InI r a b) (h' : InI r' a b):r=r' := by
 have key:∀{r r' : Nat},InI r a b->InI r' a b->¬r<r' := by
   intro r r' h h' hlt;have h1:=h.high;have h2:=h'.low;have h3:mid r * b<=mid (r' - 1) * b:=Nat.mul_le_mul_right _ (mid_le (by omega));rcases Nat.eq_or_lt_of_le (show r<=r' - 1 by omega) with h4 | h4
   · rw [<-h4] at h2;omega
   · have h5:mid r * b<mid (r' - 1) * b:=Nat.mul_lt_mul_of_pos_right (mid_lt h4) hb
     omega
 rcases Nat.lt_trichotomy r r' with h1 | h1 | h1
 · exact absurd h1 (key h h')
 · exact h1
 · exact absurd h1 (key h' h)
theorem InI.scale {r a b:Nat} {c:Nat} (hc:0<c):InI r (a * c) (b * c) ↔ InI r a b:=by
 have e:∀m:Nat,m * (b * c)=m * b * c:=fun m=>(Nat.mul_assoc _ _ _).symm;have l:∀x y:Nat,x * c<y * c ↔ x<y:=fun x y=>⟨fun h=>Nat.lt_of_mul_lt_mul_right h,fun h=>Nat.mul_lt_mul_of_pos_right h hc⟩;have q:∀x y:Nat,x * c=y * c ↔ x=y:=fun x y=>⟨fun h=>Nat.eq_of_mul_eq_mul_right hc h,fun h=>by rw [h]⟩;constructor
 · intro ⟨h1,h2⟩
   rw [e,l,q] at h1 h2;exact ⟨h1,h2⟩
 · intro ⟨h1,h2⟩
   refine ⟨?_,?_⟩
   · rw [e,l,q];exact h1
   · rw [e,l,q];exact h2
theorem Fy {k m:Nat} (h0:k=0\/4503599627370496<=m) (h1:m<=9007199254740992):rv (k * 4503599627370496+m)=m * 2 ^ k:=by
 unfold rv;by_cases h2:k * 4503599627370496+m<4503599627370496
 · rw [if_pos h2]
   obtain rfl:k=0:=by omega
   simp
 · rw [if_neg h2]
   rcases Nat.eq_or_lt_of_le h1 with h3 | h3
   · subst h3
     rw [show (k * 4503599627370496+9007199254740992) % 4503599627370496=0 by omega,show (k * 4503599627370496+9007199254740992) / 4503599627370496 - 1=k+1 by omega,Nat.pow_succ];omega
   · by_cases h4:4503599627370496<=m
     · rw [show 4503599627370496+(k * 4503599627370496+m) % 4503599627370496=m by omega,show (k * 4503599627370496+m) / 4503599627370496 - 1=k by omega]
     · omega
theorem inI_of {k m a b:Nat} (h0:k=0\/4503599627370496<=m) (h1:m<=9007199254740992)
   (hl:2 * m * 2 ^ k * b<=a+2 ^ k * b) (hh:a<=(2 * m+1) * 2 ^ k * b) (he:2 * m * 2 ^ k * b=a+2 ^ k * b\/a=(2 * m+1) * 2 ^ k * b->m % 2=0)
   (hq:k=0\/4503599627370496<m\/4 * m * 2 ^ k * b<=2 * a+2 ^ k * b):InI (k * 4503599627370496+m) a b:=by
 have hr:=Fy h0 h1
 have hpar:(k * 4503599627370496+m) % 2=m % 2:=by omega
 obtain ⟨T,hT⟩:∃T,T=2 ^ k * b:=⟨_,rfl⟩
 have eT:∀c:Nat,c * 2 ^ k * b=c * T:=fun c=>by rw [hT,Nat.mul_assoc]
 rw [eT] at hl hh he hq
 rw [<-hT] at hl he hq
 rw [eT] at he
 have e2:(2 * m+1) * T=2 * m * T+T:=by rw [Nat.add_mul,Nat.one_mul]
 constructor
 · rcases Nat.eq_zero_or_pos (k * 4503599627370496+m) with hz | hz
   · exact .inl hz
   · right
     have hlow:mid (k * 4503599627370496+m - 1) * b<=a/\(mid (k * 4503599627370496+m - 1) * b=a->m % 2=0):=by
       unfold mid;rw [show k * 4503599627370496+m - 1+1=k * 4503599627370496+m by omega,hr];by_cases hb:k=0\/4503599627370496<m
       · have hm1:1<=m:=by omega
         have:=Fy (k:=k) (m:=m - 1) (by omega) (by omega);rw [show k * 4503599627370496+m - 1=k * 4503599627370496+(m - 1) by omega,this,<-Nat.add_mul,eT,show m - 1+m=2 * m - 1 by omega,Nat.sub_mul,Nat.one_mul];have:T<=2 * m * T:=Nat.le_mul_of_pos_left _ (by omega);omega
       · obtain ⟨j,rfl⟩:∃j,k=j+1:=⟨k - 1,by omega⟩
         obtain rfl:m=4503599627370496:=by omega
         have:=Fy (k:=j) (m:=9007199254740991) (by omega) (by omega);rw [show (j+1) * 4503599627370496+4503599627370496 - 1=j * 4503599627370496+9007199254740991 by omega,this];have hq' : 4 * 4503599627370496 * T<=2 * a+T:=by omega
         have e3:(9007199254740991 * 2 ^ j+4503599627370496 * 2 ^ (j+1)) * b=18014398509481983 * (2 ^ j * b):=by
           rw [Nat.pow_succ,Nat.mul_comm (2 ^ j) 2,<-Nat.mul_assoc 4503599627370496,<-Nat.add_mul,Nat.mul_assoc]
         have e4:T=2 * (2 ^ j * b):=by rw [hT,Nat.pow_succ,Nat.mul_comm (2 ^ j) 2,Nat.mul_assoc]
         rw [e3];generalize 2 ^ j * b=z at *;omega
     rw [hpar];omega
 · have hhigh:a<=mid (k * 4503599627370496+m) * b/\(a=mid (k * 4503599627370496+m) * b->m % 2=0):=by
     unfold mid;rw [hr];rcases Nat.eq_or_lt_of_le h1 with h3 | h3
     · subst h3
       have:=Fy (k:=k+1) (m:=4503599627370497) (by omega) (by omega);rw [show k * 4503599627370496+9007199254740992+1=(k+1) * 4503599627370496+4503599627370497 by omega,this,Nat.pow_succ,Nat.mul_comm (2 ^ k) 2,<-Nat.mul_assoc,<-Nat.add_mul,eT];refine ⟨by omega,fun _=>by decide⟩
     · have:=Fy (k:=k) (m:=m+1) (by omega) (by omega)
       rw [Nat.add_assoc,this,<-Nat.add_mul,eT,show m+(m+1)=2 * m+1 by omega];omega
   rw [hpar];omega
theorem unr_half {y E:Nat} (hE:0<E):B7 (unr y E / 2) (decide (unr y E % 2=1))=unr y (2 * E):=by
 have h:=Nat.div_add_mod y E;have h2:=Nat.mod_lt y hE;have h3:y / (2 * E)=y / E / 2:=by rw [Nat.mul_comm,Nat.div_div_eq_div_mul]
 have h4:=Nat.div_add_mod y (2 * E);rw [h3] at h4;obtain ⟨q,hq⟩:∃q,q=y / E:=⟨_,rfl⟩;obtain ⟨t,ht⟩:∃t,t=y % E:=⟨_,rfl⟩;obtain ⟨v,hv⟩:∃v,v=y % (2 * E):=⟨_,rfl⟩;unfold unr;rw [h3,<-hq,<-ht,<-hv];rw [<-hq,<-ht] at h;rw [<-hq,<-hv] at h4;rw [<-ht] at h2;have e1:2 * E * (q / 2)=E * (q / 2 * 2):=by rw [Nat.mul_comm 2 E,Nat.mul_assoc,Nat.mul_comm 2]
 have e2:E * q=E * (q / 2 * 2)+E * (q % 2):=by rw [<-Nat.mul_add];congr 1;omega
 have key:v=E * (q % 2)+t:=by omega
 clear hq ht hv h h4 h3 e1 e2;by_cases h0:t=0
 · subst h0
   rw [show decide ((0:Nat)≠0)=false by rfl];show B7 (q / 2) (decide (q % 2=1))=_;rcases Nat.mod_two_eq_zero_or_one q with h | h
   · rw [h] at key ⊢
     rw [show v=0 by omega];rfl
   · rw [h] at key ⊢
     rw [show decide (v≠0)=true by rw [decide_eq_true_iff];omega];rfl
 · rw [show decide (t≠0)=true by rw [decide_eq_true_iff];exact h0,show decide (v≠0)=true by rw [decide_eq_true_iff];omega]
   show B7 ((q / 2 * 2+1) / 2) (decide ((q / 2 * 2+1) % 2=1))=_;rw [show (q / 2 * 2+1) / 2=q / 2 by omega,show (q / 2 * 2+1) % 2=1 by omega];rfl
def Ap (d:Nat):Nat:=if d=0 then 0 else d.log2+1
theorem F6 {d:Nat} (h:0<d):2 ^ (Ap d - 1)<=d/\d<2 ^ Ap d/\1<=Ap d:=by
 unfold Ap;rw [if_neg (by omega),Nat.add_sub_cancel];exact ⟨Nat.log2_self_le (by omega),Nat.lt_log2_self,by omega⟩
theorem len64_le {d:Nat} (h:d<18446744073709551616):Ap d<=64:=by
 unfold Ap;split
 · omega
 · have:=(Nat.log2_lt (n:=d) (k:=64) (by omega)).2 h
   omega
theorem norm64 {d:Nat} (h:0<d) (h2:d<18446744073709551616):9223372036854775808<=d * 2 ^ (64 - Ap d)/\d * 2 ^ (64 - Ap d)<18446744073709551616:=by
 obtain ⟨a,b,c⟩:=F6 h;have l:=len64_le h2;constructor
 · have:2 ^ (Ap d - 1) * 2 ^ (64 - Ap d)<=d * 2 ^ (64 - Ap d):=Nat.mul_le_mul_right _ a
   rw [<-Nat.pow_add,show Ap d - 1+(64 - Ap d)=63 by omega] at this;exact this
 · have:d * 2 ^ (64 - Ap d)<2 ^ Ap d * 2 ^ (64 - Ap d):=Nat.mul_lt_mul_of_pos_right b (Nat.two_pow_pos _)
   rw [<-Nat.pow_add,show Ap d+(64 - Ap d)=64 by omega] at this;exact this
def lpOk (p:Int):Bool:=decide (170141183460469231731687303715884105728 * tD p<=tN p) && decide (tN p<=340282366920938387905510881517444792320 * tD p)
theorem lp_ok:allOk (fun p _=>lpOk p) 0 certP=true:=by decide +kernel
def parE (d:Nat) (p:Int):Int:=min 1074 (53 - Ap d - lp10 p)
def parS (d:Nat) (p:Int):Int:=-(parE d p - (64 - Ap d)+lp10 p+3)
def Ck (m:Nat) (k:Nat):Nat:=if m<4503599627370496 then m else if 2046<=k then 9218868437227405312 else (k+1) * 4503599627370496+(m - 4503599627370496)
def Bt (d:Nat) (p:Int):Nat:=
 if 64<=parS d p then 0 else
   let u:=C2 18446744073709551616 (d * 2 ^ (64 - Ap d)) (hiT p) (loT p) (parS d p).toNat
   if 36028797018963966<=u then Ck (rndU (B7 (u / 2) (decide (u % 2=1)))) (1075 - parE d p).toNat
   else Ck (rndU u) (1074 - parE d p).toNat
theorem packN_eq {m k:Nat} (h0:k=0\/4503599627370496<=m) (h1:m<9007199254740992):Ck m k=min (k * 4503599627370496+m) 9218868437227405312:=by
 unfold Ck;by_cases h:m<4503599627370496
 · rw [if_pos h]
   obtain rfl:k=0:=by omega
   omega
 · rw [if_neg h]
   by_cases h2:2046<=k
   · rw [if_pos h2]
     have:2046 * 4503599627370496<=k * 4503599627370496:=Nat.mul_le_mul_right _ h2;omega
   · rw [if_neg h2]
     have:k * 4503599627370496<=2045 * 4503599627370496:=Nat.mul_le_mul_right _ (by omega);rw [Nat.add_mul];omega
def hp:Nat:=1075
def decA (d:Nat) (p:Int):Nat:=d * 10 ^ p.toNat * 2 ^ hp
def B5 (p:Int):Nat:=10 ^ (-p).toNat
theorem rel1 {d:Nat} {p:Int} {s k:Nat} (hl:Ap d<=64) (h:(k:Int)=1204+s - 64+Ap d - 127+lp10 p) :
   2 * decA d p * (tD p * (18446744073709551616 * 18446744073709551616) * 2 ^ s)=d * 2 ^ (64 - Ap d) * tN p * 2 ^ k * B5 p:=by
 unfold decA B5 tN tD
 rw [show (18446744073709551616 * 18446744073709551616:Nat)=2 ^ 128 by decide]
 have e:2 * 2 ^ hp * (2 ^ (lp10 p - 127).toNat * 2 ^ 128 * 2 ^ s)=2 ^ (64 - Ap d) * 2 ^ (127 - lp10 p).toNat * 2 ^ k:=by
   rw [<-Nat.pow_add,<-Nat.pow_add,<-Nat.pow_add,<-Nat.pow_add,<-Nat.pow_succ', <-Nat.pow_add];congr 1;have:hp=1075:=rfl;omega
 generalize 10 ^ (-p).toNat=b at *
 generalize 10 ^ p.toNat=a at *
 generalize 2 ^ hp=t at *
 generalize 2 ^ (lp10 p - 127).toNat=x at *
 generalize 2 ^ (127 - lp10 p).toNat=y at *
 generalize 2 ^ (64 - Ap d)=z at *
 generalize 2 ^ 128=v at *
 generalize 2 ^ s=S at *
 generalize 2 ^ k=K at *
 have e2:2 * (d * a * t) * (b * x * v * S)=d * a * b * (2 * t * (x * v * S)):=by
   simp only [Nat.mul_assoc,Nat.mul_left_comm,Nat.mul_comm]
 rw [e2,e]
 simp only [Nat.mul_assoc,Nat.mul_left_comm,Nat.mul_comm]
theorem four (m T:Nat):4 * m * T=2 * (2 * m * T):=by rw [<-Nat.mul_assoc 2 (2 * m) T,<-Nat.mul_assoc 2 2 m]
theorem four2 (m T:Nat):(4 * m+2) * T=2 * ((2 * m+1) * T):=by rw [<-Nat.mul_assoc 2 (2 * m+1) T];congr 1;omega
theorem inI_scaled {m k a b y E:Nat} (hE:0<E) (hb:0<b) (h0:k=0\/4503599627370496<=m) (h1:m<=9007199254740992) (hrel:2 * a * E=y * 2 ^ k * b)
   (h2:y<=(4 * m+2) * E) (h3:4 * m * E<=y+2 * E) (h4:y=(4 * m+2) * E\/4 * m * E=y+2 * E->m % 2=0)
   (h5:k=0\/4503599627370496<m\/4 * m * E<=y+E):InI (k * 4503599627370496+m) a b:=by
 have hT:0<2 ^ k * b:=Nat.mul_pos (Nat.two_pow_pos k) hb
 have e1:∀c:Nat,c * 2 ^ k * b=c * (2 ^ k * b):=fun c=>Nat.mul_assoc _ _ _
 rw [e1] at hrel
 have lem:∀c:Nat,y<=c * E->2 * a<=c * (2 ^ k * b):=fun c hc=>by
   refine Nat.le_of_mul_le_mul_right ?_ hE;rw [hrel,Nat.mul_right_comm];exact Nat.mul_le_mul_right _ hc
 have lem' : ∀c:Nat,c * E<=y->c * (2 ^ k * b)<=2 * a:=fun c hc=>by
   refine Nat.le_of_mul_le_mul_right ?_ hE;rw [hrel,Nat.mul_right_comm];exact Nat.mul_le_mul_right _ hc
 have lemE:∀c:Nat,2 * a=c * (2 ^ k * b)->y=c * E:=fun c hc=>by
   rw [hc,Nat.mul_right_comm] at hrel;exact (Nat.eq_of_mul_eq_mul_right hT hrel).symm
 have e2:(4 * m+2) * E=4 * m * E+2 * E:=Nat.add_mul _ _ _
 have low:4 * m * (2 ^ k * b)<=2 * a+2 * (2 ^ k * b):=by
   rcases Nat.eq_zero_or_pos m with hm | hm
   · subst hm;omega
   · have:=lem' (4 * m - 2) (by rw [Nat.sub_mul];omega)
     rw [Nat.sub_mul] at this;omega
 refine inI_of h0 h1 ?_ ?_ ?_ ?_
 · rw [e1]
   have:=four m (2 ^ k * b);omega
 · rw [e1]
   have:=lem _ h2;have e3:=four2 m (2 ^ k * b);omega
 · rw [e1,e1]
   intro h;refine h4 ?_;rcases h with h | h
   · right
     rcases Nat.eq_zero_or_pos m with hm | hm
     · subst hm;omega
     · have:=lemE (4 * m - 2) (by
         rw [Nat.sub_mul];have:=four m (2 ^ k * b);omega)
       rw [Nat.sub_mul] at this;have:2 * E<=4 * m * E:=Nat.mul_le_mul_right _ (by omega);omega
   · left
     refine lemE _ ?_;rw [h];exact (four2 m _).symm
 · rcases h5 with h | h | h
   · exact .inl h
   · exact .inr (.inl h)
   · right;right
     rw [e1];rcases Nat.eq_zero_or_pos m with hm | hm
     · subst hm;omega
     · have:=lem' (4 * m - 1) (by rw [Nat.sub_mul];omega)
       rw [Nat.sub_mul] at this;omega
theorem lp_bounds {p:Int} (h0:-348<=p) (h1:p<=347):170141183460469231731687303715884105728 * tD p<=tN p/\tN p<=340282366920938387905510881517444792320 * tD p:=by
 obtain ⟨_,h⟩:=at10 lp_ok Fk h0 h1;rw [lpOk,Bool.and_eq_true,decide_eq_true_eq,decide_eq_true_eq] at h;exact h
theorem y_bounds {x s:Nat} {p:Int} (h0:-348<=p) (h1:p<=347) (hx0:9223372036854775808<=x) (hx1:x<18446744073709551616) (hs:8<=s) :
   x * tN p * 2 ^ (s - 8)<72057594037927920 * (tD p * (18446744073709551616 * 18446744073709551616) * 2 ^ s) /\
   (s=8->18014398509481984 * (tD p * (18446744073709551616 * 18446744073709551616) * 2 ^ s)<=x * tN p) /\
   x * tN p * 2 ^ s<18446744073709551616 * 2 ^ s * (tD p * (18446744073709551616 * 18446744073709551616)):=by
 obtain ⟨b0,b1⟩:=lp_bounds h0 h1
 have hD:=E3 p
 have hN:=tN_pos p
 have hS:2 ^ s=256 * 2 ^ (s - 8):=by
   rw [show (256:Nat)=2 ^ 8 by decide,<-Nat.pow_add];congr 1;omega
 have hT:=Nat.two_pow_pos (s - 8)
 have hT2:=Nat.two_pow_pos s
 have c1:x * tN p<18446744073709551616 * tN p:=Nat.mul_lt_mul_of_pos_right hx1 hN
 have c0:9223372036854775808 * tN p<=x * tN p:=Nat.mul_le_mul_right _ hx0
 generalize tD p=D at *
 generalize tN p=N at *
 generalize x * N=y at *
 obtain ⟨Q,hQ⟩:∃Q,Q=18446744073709551616 * 18446744073709551616:=⟨_,rfl⟩
 rw [<-hQ]
 refine ⟨?_,?_,?_⟩
 · rw [hS]
   generalize 2 ^ (s - 8)=T at *;have e:72057594037927920 * (D * Q * (256 * T))=72057594037927920 * (Q * 256) * D * T:=by
     simp only [Nat.mul_assoc,Nat.mul_left_comm,Nat.mul_comm]
   rw [e];refine Nat.mul_lt_mul_of_pos_right (Nat.lt_of_lt_of_le c1 ?_) hT;have:18446744073709551616 * N<=18446744073709551616 * (340282366920938387905510881517444792320 * D):=Nat.mul_le_mul_left _ b1;rw [<-Nat.mul_assoc] at this;have e2:18446744073709551616 * 340282366920938387905510881517444792320=72057594037927920 * (Q * 256):=by rw [hQ]
   rw [<-e2];exact this
 · intro h8
   subst h8;refine Nat.le_trans ?_ c0;have:9223372036854775808 * (170141183460469231731687303715884105728 * D)<=9223372036854775808 * N:=Nat.mul_le_mul_left _ b0;rw [<-Nat.mul_assoc] at this;refine Nat.le_trans (Nat.le_of_eq ?_) this;have e2:9223372036854775808 * 170141183460469231731687303715884105728=18014398509481984 * (Q * 256):=by rw [hQ]
   rw [e2];show 18014398509481984 * (D * Q * 256)=_;simp only [Nat.mul_assoc,Nat.mul_left_comm,Nat.mul_comm]
 · have:y<18446744073709551616 * (D * Q):=by
     refine Nat.lt_of_lt_of_le c1 ?_;have:18446744073709551616 * N<=18446744073709551616 * (340282366920938387905510881517444792320 * D):=Nat.mul_le_mul_left _ b1;refine Nat.le_trans this (Nat.mul_le_mul_left _ ?_);rw [Nat.mul_comm D];refine Nat.mul_le_mul_right _ ?_;rw [hQ];decide
   rw [Nat.mul_right_comm];exact Nat.mul_lt_mul_of_pos_right this hT2
theorem Fi {d:Nat} {p:Int} (hd:0<d) (hd2:d<18446744073709551616) (h0:-348<=p) (h1:p<=347) :
   ∃r,InI r (decA d p) (B5 p)/\Bt d p=min r 9218868437227405312:=by
 obtain ⟨n0,n1⟩:=norm64 hd hd2
 have hl:=len64_le hd2
 have hb:0<B5 p:=Nat.pow_pos (by decide)
 have hs8:8<=parS d p:=by unfold parS parE;omega
 have hk8:parS d p=8\/parE d p=1074:=by unfold parS parE;omega
 have hke:parE d p<=1074:=by unfold parE;omega
 have hse:parS d p=61 - parE d p - lp10 p - Ap d:=by unfold parS;omega
 obtain ⟨s,hs⟩:∃s:Nat,parS d p=s:=⟨(parS d p).toNat,by omega⟩
 obtain ⟨k,hk⟩:∃k:Nat,parE d p=1074 - k:=⟨(1074 - parE d p).toNat,by omega⟩
 have hrel:=rel1 (d:=d) (p:=p) (s:=s) (k:=k) hl (by omega)
 obtain ⟨b1,b2,b3⟩:=y_bounds (s:=s) h0 h1 n0 n1 (by omega)
 have hE:0<tD p * (18446744073709551616 * 18446744073709551616) * 2 ^ s:=Nat.mul_pos (Nat.mul_pos (E3 p) (by decide)) (Nat.two_pow_pos s)
 have hu:=uscale_p (s:=s) h0 h1 (by omega) n0 n1
 have hpar:Bt d p=if 64<=s then 0 else if 36028797018963966<=unr (d * 2 ^ (64 - Ap d) * tN p) (tD p * (18446744073709551616 * 18446744073709551616) * 2 ^ s) then
     Ck (rndU (B7 (unr (d * 2 ^ (64 - Ap d) * tN p) (tD p * (18446744073709551616 * 18446744073709551616) * 2 ^ s) / 2) (decide (unr (d * 2 ^ (64 - Ap d) * tN p) (tD p * (18446744073709551616 * 18446744073709551616) * 2 ^ s) % 2=1)))) (k+1)
     else Ck (rndU (unr (d * 2 ^ (64 - Ap d) * tN p) (tD p * (18446744073709551616 * 18446744073709551616) * 2 ^ s))) k:=by
   unfold Bt
   rw [hs,hk,Int.toNat_natCast,hu,show (1075 - (1074 - (k:Int))).toNat=k+1 by omega,show (1074 - (1074 - (k:Int))).toNat=k by omega]
   by_cases h:64<=s
   · rw [if_pos (by omega),if_pos h]
   · rw [if_neg (by omega),if_neg h]
 rw [hpar]
 clear hpar hu
 have hT8:1<=2 ^ (s - 8):=Nat.two_pow_pos _
 generalize d * 2 ^ (64 - Ap d) * tN p=y at *
 by_cases h64:64<=s
 · -- below all rungs
   rw [if_pos h64];refine ⟨0,⟨.inl rfl,.inl ?_⟩,rfl⟩;obtain rfl:k=0:=by omega
   have hS:2 ^ s=18446744073709551616 * 2 ^ (s - 64):=by
     rw [show (18446744073709551616:Nat)=2 ^ 64 by decide,<-Nat.pow_add];congr 1;omega
   have hT:=Nat.two_pow_pos (s - 64);have hm0:mid 0=1:=by decide
   rw [hm0,Nat.one_mul];rw [Nat.pow_zero,Nat.mul_one] at hrel;have hD:=E3 p;have h5:y<tD p * (18446744073709551616 * 18446744073709551616) * 2 ^ s:=by
     refine Nat.lt_of_mul_lt_mul_right (a:=2 ^ s) (Nat.lt_of_lt_of_le b3 ?_);rw [Nat.mul_comm (18446744073709551616 * 2 ^ s),<-Nat.mul_assoc];refine Nat.mul_le_mul_right _ ?_;refine Nat.mul_le_mul_left _ ?_;rw [hS];exact Nat.le_mul_of_pos_right _ hT
   generalize tD p * (18446744073709551616 * 18446744073709551616) * 2 ^ s=E at *;refine Nat.lt_of_mul_lt_mul_right (a:=E) ?_;have:y * B5 p<E * B5 p:=Nat.mul_lt_mul_of_pos_right h5 hb;rw [Nat.mul_comm E] at this;have:2 * decA d p * E=2 * (decA d p * E):=Nat.mul_assoc _ _ _;omega
 · rw [if_neg h64]
   have hyE:y<72057594037927920 * (tD p * (18446744073709551616 * 18446744073709551616) * 2 ^ s):=Nat.lt_of_le_of_lt (Nat.le_mul_of_pos_right _ hT8) b1;have hlow:k=0\/18014398509481984 * (tD p * (18446744073709551616 * 18446744073709551616) * 2 ^ s)<=y:=by
     rcases hk8 with h | h
     · exact .inr (b2 (by omega))
     · exact .inl (by omega)
   clear b1 b2 b3;generalize tD p * (18446744073709551616 * 18446744073709551616) * 2 ^ s=E at *;obtain ⟨s0,s1⟩:=unr_spec (y:=y) hE;by_cases hsh:36028797018963966<=unr y E
   · rw [if_pos hsh,unr_half hE]
     have hE2:0<2 * E:=by omega
     obtain ⟨t0,t1⟩:=unr_spec (y:=y) hE2;obtain ⟨r0,r1,r2⟩:=rndU_spec (y:=y) hE2;have hy55:36028797018963966 * E<=y:=by
       rcases Nat.mod_two_eq_zero_or_one (unr y E) with h | h
       · rw [s0 h];exact Nat.mul_le_mul_right _ hsh
       · have:=(s1 h).1
         have:36028797018963966 * E<=(unr y E - 1) * E:=Nat.mul_le_mul_right _ (by omega);omega
     have hm1:4503599627370496<=rndU (unr y (2 * E)):=by
       rcases Nat.lt_or_ge (rndU (unr y (2 * E))) 4503599627370496 with h | h
       · have:(4 * rndU (unr y (2 * E))+2) * (2 * E)<=18014398509481982 * (2 * E):=Nat.mul_le_mul_right _ (by omega)
         have hm9:rndU (unr y (2 * E))=4503599627370495:=by
           rcases Nat.lt_or_ge (rndU (unr y (2 * E))) 4503599627370495 with h9 | h9
           · have:(4 * rndU (unr y (2 * E))+2) * (2 * E)<=18014398509481978 * (2 * E):=Nat.mul_le_mul_right _ (by omega)
             omega
           · omega
         rw [hm9] at r2 r0;exact absurd (r2 (.inl (by omega))) (by decide)
       · exact h
     have hm2:rndU (unr y (2 * E))<9007199254740992:=by
       rcases Nat.lt_or_ge (rndU (unr y (2 * E))) 9007199254740992 with h | h
       · exact h
       · have:4 * 9007199254740992 * (2 * E)<=4 * rndU (unr y (2 * E)) * (2 * E):=Nat.mul_le_mul_right _ (by omega)
         omega
     refine ⟨(k+1) * 4503599627370496+rndU (unr y (2 * E)),?_,packN_eq (.inr hm1) hm2⟩;refine inI_scaled hE2 hb (.inr hm1) (by omega) ?_ r0 r1 r2 ?_
     · have e1:2 * decA d p * (2 * E)=2 * (2 * decA d p * E):=Nat.mul_left_comm _ _ _
       have e2:y * 2 ^ (k+1) * B5 p=2 * (y * 2 ^ k * B5 p):=by
         rw [Nat.pow_succ,Nat.mul_comm (2 ^ k) 2,Nat.mul_left_comm,Nat.mul_assoc]
       rw [e1,e2,hrel]
     · rcases Nat.eq_or_lt_of_le hm1 with h | h
       · right;right
         rw [<-h];omega
       · exact .inr (.inl h)
   · rw [if_neg hsh]
     obtain ⟨r0,r1,r2⟩:=rndU_spec (y:=y) hE;have hm1:k=0\/4503599627370496<=rndU (unr y E):=by
       rcases hlow with h | h
       · exact .inl h
       · right
         rcases Nat.lt_or_ge (rndU (unr y E)) 4503599627370496 with h9 | h9
         · have:(4 * rndU (unr y E)+2) * E<=18014398509481982 * E:=Nat.mul_le_mul_right _ (by omega)
           omega
         · exact h9
     have hm2:rndU (unr y E)<9007199254740992:=by unfold rndU;omega
     refine ⟨k * 4503599627370496+rndU (unr y E),?_,packN_eq hm1 hm2⟩;refine inI_scaled hE hb hm1 (by omega) hrel r0 r1 r2 ?_;rcases hlow with h | h
     · exact .inl h
     · rcases Nat.lt_or_ge 4503599627370496 (rndU (unr y E)) with h9 | h9
       · exact .inr (.inl h9)
       · right;right
         have:4 * rndU (unr y E) * E<=18014398509481984 * E:=Nat.mul_le_mul_right _ (by omega);omega
def rM (r:Nat):Nat:=if r<4503599627370496 then r else 4503599627370496+r % 4503599627370496
def rK (r:Nat):Nat:=r / 4503599627370496 - 1
theorem Dv (r:Nat):r=rK r * 4503599627370496+rM r/\(rK r=0\/4503599627370496<=rM r)/\rM r<9007199254740992:=by
 unfold rK rM;split<;>omega
theorem rM_pos {r:Nat} (h:0<r):0<rM r:=by unfold rM;split<;>omega
theorem rv_split (r:Nat):rv r=rM r * 2 ^ rK r:=by
 obtain ⟨h1,h2,h3⟩:=Dv r;have:=Fy h2 (Nat.le_of_lt h3);rw [<-h1] at this;exact this
def skewB (r:Nat):Bool:=decide (rM r=4503599627370496) && decide (1<=rK r)
theorem mid_high (r:Nat):mid r=(2 * rM r+1) * 2 ^ rK r:=by
 obtain ⟨h1,h2,h3⟩:=Dv r;have h4:=Fy (k:=rK r) (m:=rM r+1) (by omega) (by omega);rw [<-Nat.add_assoc,<-h1] at h4;unfold mid;rw [h4,rv_split,<-Nat.add_mul];congr 1;omega
theorem mid_low {r:Nat} (h:0<r) (hs:skewB r=false):mid (r - 1)=(2 * rM r - 1) * 2 ^ rK r:=by
 obtain ⟨h1,h2,h3⟩:=Dv r;have hM:=rM_pos h;rw [skewB,Bool.and_eq_false_iff,decide_eq_false_iff_not,decide_eq_false_iff_not] at hs;have h4:=Fy (k:=rK r) (m:=rM r - 1) (by omega) (by omega);rw [show rK r * 4503599627370496+(rM r - 1)=r - 1 by omega] at h4;unfold mid;rw [show r - 1+1=r by omega,h4,rv_split r,<-Nat.add_mul];congr 1;omega
theorem mid_skew {r:Nat} (hs:skewB r=true):mid (r - 1) * 2=(4 * rM r - 1) * 2 ^ rK r:=by
 obtain ⟨h1,h2,h3⟩:=Dv r;rw [skewB,Bool.and_eq_true,decide_eq_true_eq,decide_eq_true_eq] at hs;obtain ⟨hm,hk⟩:=hs;obtain ⟨j,hj⟩:∃j,rK r=j+1:=⟨rK r - 1,by omega⟩;have h4:=Fy (k:=j) (m:=9007199254740991) (by omega) (by omega);rw [hj,hm] at h1;rw [show j * 4503599627370496+9007199254740991=r - 1 by omega] at h4;unfold mid;rw [show r - 1+1=r by omega,h4,rv_split r,hm,hj,Nat.pow_succ];have:0<2 ^ j:=Nat.two_pow_pos j;generalize 2 ^ j=t at *;omega
def allN:Nat->(Nat->Bool)->Bool
 | 0,_=>true
 | n+1,f=>f n && allN n f
theorem allN_at {f:Nat->Bool}:∀{n:Nat},allN n f=true->∀k,k<n->f k=true
 | 0,_,k,hk=>by omega
 | n+1,h,k,hk=>by
   rw [allN,Bool.and_eq_true] at h;rcases Nat.eq_or_lt_of_le (Nat.le_of_lt_succ hk) with h1 | h1
   · rw [h1];exact h.1
   · exact allN_at h.2 k h1
end Go.Proofs.YtagkgfniihiinaaGreatDoor
namespace Go.Proofs.YtagkgfniihiinaaGreatDoor
open Go.RowKit
theorem mbits_run (r:Nat) (w:World):(callFunc 55 #[.float .f64 r]).run Tryz.prog w=.ok (.value (.int .u64 r)) w:=by kernel_rfl
theorem Ds (r:Nat) (w:World):(callFunc 57 #[.int .u64 (r:Int)]).run Tryz.prog w=.ok (.value (.float .f64 r)) w:=by kernel_rfl
theorem nan_ne {r:Nat} (h:r<18446744073709551616):(FloatKind.f64.format.order r r != some .eq)=nanF r:=by
 have:=order_self h;show (!(Ieee.double.order r r == some .eq))=nanF r;rw [this];simp
def flipN (r:Nat):Nat:=if r<9223372036854775808 then r+9223372036854775808 else r - 9223372036854775808
theorem xor63 {r:Nat} (h:r<18446744073709551616):r ^^^ 9223372036854775808=flipN r:=by
 have h1:(r ^^^ 2 ^ 63) % 2 ^ 63=r % 2 ^ 63:=by rw [Nat.xor_mod_two_pow,Nat.mod_self,Nat.xor_zero]
 have h2:(r ^^^ 2 ^ 63) / 2 ^ 63=(r / 2 ^ 63) ^^^ 1:=by rw [Nat.xor_div_two_pow,Nat.div_self (Nat.two_pow_pos 63)]
 have h3:r / 2 ^ 63=0\/r / 2 ^ 63=1:=by omega
 have e:(9223372036854775808:Nat)=2 ^ 63:=by decide
 unfold flipN;rw [e];have h4:=Nat.div_add_mod (r ^^^ 2 ^ 63) (2 ^ 63);have h5:=Nat.div_add_mod r (2 ^ 63);rw [h1,h2] at h4;rcases h3 with h3 | h3
 · rw [h3] at h4 h5
   have:(0 ^^^ 1:Nat)=1:=by decide
   rw [this] at h4;rw [if_pos (by omega)];omega
 · rw [h3] at h4 h5
   have:(1 ^^^ 1:Nat)=0:=by decide
   rw [this] at h4;rw [if_neg (by omega)];omega
theorem Fq (r:Nat) (w:World):(Op.unary .neg (.float .f64 r)).run Tryz.prog w=.ok (.float .f64 (Op.negFloat .f64 r)) w:=rfl
end Go.Proofs.YtagkgfniihiinaaGreatDoor
namespace Go.Proofs.YtagkgfniihiinaaGreatDoor
def dv (c:UInt8):Nat:=c.toNat - 48
def isD (c:UInt8):Bool:=decide (48<=c.toNat) && decide (c.toNat<=57)
def valD (l:List UInt8):Nat:=l.foldl (fun a c=>a * 10+dv c) 0
theorem foldl_val (l:List UInt8):∀a:Nat,l.foldl (fun a c=>a * 10+dv c) a=a * 10 ^ l.length+valD l:=by
 induction l with
 | nil=>intro a;simp [valD]
 | cons c l ih=>
   intro a;have e:valD (c :: l)=dv c * 10 ^ l.length+valD l:=by
     show l.foldl (fun a c=>a * 10+dv c) (0 * 10+dv c)=_;rw [ih,Nat.zero_mul,Nat.zero_add]
   rw [List.foldl_cons,ih,e,List.length_cons,Nat.pow_succ,Nat.add_mul,Nat.mul_assoc,Nat.mul_comm 10 (10 ^ l.length)];omega
theorem D4 (a b:List UInt8):valD (a++b)=valD a * 10 ^ b.length+valD b:=by
 rw [valD,List.foldl_append,foldl_val];rfl
theorem valD_snoc (a:List UInt8) (c:UInt8):valD (a++[c])=valD a * 10+dv c:=by
 rw [D4];simp [valD]
theorem C8 (c:UInt8) (l:List UInt8):valD (c :: l)=dv c * 10 ^ l.length+valD l:=by
 rw [valD,List.foldl_cons,foldl_val];simp
theorem Ew {c:UInt8} (h:isD c=true):dv c<=9:=by simp [isD] at h;unfold dv;omega
theorem C7:∀{l:List UInt8},(∀c∈l,isD c=true)->valD l<10 ^ l.length
 | [],_=>by simp [valD]
 | c :: l,h=>by
   have h1:=C7 (l:=l) (fun x hx=>h x (List.mem_cons_of_mem _ hx));have h2:=Ew (h c (List.mem_cons_self ..));rw [C8,List.length_cons,Nat.pow_succ];have:dv c * 10 ^ l.length<=9 * 10 ^ l.length:=Nat.mul_le_mul_right _ h2;omega
def A0 (l:List UInt8):List UInt8:=l.dropWhile (· == 48)
theorem stripL_snoc_zero {l:List UInt8} (h:A0 l=[]):A0 (l++[48])=[]:=by
 unfold A0 at *;rw [List.dropWhile_append,h];rfl
theorem stripL_snoc {l:List UInt8} {c:UInt8} (h:c≠48\/A0 l≠[]):A0 (l++[c])=A0 l++[c]:=by
 unfold A0 at *;rw [List.dropWhile_append];by_cases h1:l.dropWhile (· == 48)=[]
 · rcases h with h | h
   · rw [h1]
     have:(c == 48)=false:=by simpa using h
     simp [List.dropWhile,this]
   · exact absurd h1 h
 · cases h2:l.dropWhile (· == 48) with
   | nil=>exact absurd h2 h1
   | cons a b=>simp
theorem Co (l:List UInt8):(A0 l).length<=l.length:=by
 unfold A0;exact (List.dropWhile_sublist _).length_le
theorem stripL_mem {l:List UInt8} {c:UInt8} (h:c∈A0 l):c∈l:=(List.dropWhile_sublist _).subset h
theorem stripL_head {l:List UInt8} (h:A0 l≠[]):∃c m,A0 l=c :: m/\c≠48:=by
 cases h1:A0 l with
 | nil=>exact absurd h1 h
 | cons c m=>
   refine ⟨c,m,rfl,fun e=>?_⟩;have:=List.head_dropWhile_not (p:=fun x:UInt8=>x == 48) (l:=l) (by unfold A0 at h;exact h);unfold A0 at h1;simp only [h1,List.head_cons] at this;rw [e] at this;simp at this
def ndF (l:List UInt8):Nat:=(A0 l).length
def A3 (l:List UInt8):Nat:=valD ((A0 l).take 19)
def Bf (l:List UInt8):Bool:=((A0 l).drop 19).any (· != 48)
theorem ndF_zero {l:List UInt8} (h:ndF l=0):ndF (l++[48])=0/\A3 (l++[48])=A3 l/\Bf (l++[48])=Bf l:=by
 have h1:A0 l=[]:=List.length_eq_zero_iff.1 h;have h2:=stripL_snoc_zero h1;unfold ndF A3 Bf;rw [h1,h2];exact ⟨rfl,rfl,rfl⟩
theorem ndF_snoc {l:List UInt8} {c:UInt8} (h:c≠48\/ndF l≠0):ndF (l++[c])=ndF l+1 /\
   (ndF l<19->A3 (l++[c])=A3 l * 10+dv c/\Bf (l++[c])=Bf l) /\
   (19<=ndF l->A3 (l++[c])=A3 l/\Bf (l++[c])=(Bf l || c != 48)):=by
 have h1:A0 (l++[c])=A0 l++[c]:=stripL_snoc (h.imp id (fun h2 h3=>h2 (by unfold ndF;rw [h3];rfl)))
 unfold ndF A3 Bf
 rw [h1]
 refine ⟨by simp,fun h2=>⟨?_,?_⟩,fun h2=>⟨?_,?_⟩⟩
 · rw [List.take_of_length_le (by simp;omega),List.take_of_length_le (by omega),valD_snoc]
 · rw [List.drop_of_length_le (by simp;omega),List.drop_of_length_le (by omega)]
 · rw [List.take_append_of_le_length h2]
 · rw [List.drop_append_of_le_length h2,List.any_append];simp
theorem mantF_lt {l:List UInt8} (hd:∀c∈l,isD c=true):A3 l<10 ^ (min 19 (ndF l)):=by
 unfold A3 ndF;have:=C7 (l:=(A0 l).take 19) (fun c hc=>hd c (stripL_mem (List.mem_of_mem_take hc)));rwa [List.length_take] at this
theorem mantF_lt19 {l:List UInt8} (hd:∀c∈l,isD c=true):A3 l<10000000000000000000:=
 Nat.lt_of_lt_of_le (mantF_lt hd) (Nat.pow_le_pow_right (n:=10) (by decide) (Nat.min_le_left 19 _))
def capE (l:List UInt8):Nat:=l.foldl (fun e c=>if e<10000 then e * 10+dv c else e) 0
theorem Do (l:List UInt8) (c:UInt8):capE (l++[c])=if capE l<10000 then capE l * 10+dv c else capE l:=by
 unfold capE;rw [List.foldl_append];rfl
theorem Cs {l:List UInt8} (hd:∀c∈l,isD c=true):capE l<100000:=by
 have key:∀(l:List UInt8),(∀c∈l,isD c=true)->∀a:Nat,a<100000->l.foldl (fun e c=>if e<10000 then e * 10+dv c else e) a<100000:=by
   intro l;induction l with
   | nil=>intro _ a h;exact h
   | cons c l ih=>
     intro h a ha;refine ih (fun x hx=>h x (List.mem_cons_of_mem _ hx)) _ ?_;have:=Ew (h c (List.mem_cons_self ..));show (if a<10000 then a * 10+dv c else a)<100000;split<;>omega
 exact key l hd 0 (by decide)
def B0:List UInt8->Bool->List UInt8->Nat->Bool × List UInt8 × Nat × List UInt8
 | [],d,L,m=>(d,L,m,[])
 | c :: l,d,L,m=>if c.toNat=46 then (if d then (d,L,m,c :: l) else B0 l true L 0) else if isD c then B0 l d (L++[c]) (m+1) else (d,L,m,c :: l)
theorem Dl:∀{l:List UInt8} {d:Bool} {L:List UInt8} {m:Nat} {d' : Bool} {L' : List UInt8} {m' : Nat} {r:List UInt8},B0 l d L m=(d', L', m', r)->∃p,l=p++r
 | [],d,L,m,d', L', m', r,h=>by
   simp only [B0,Prod.mk.injEq] at h;exact ⟨[],by rw [<-h.2.2.2];rfl⟩
 | c :: l,d,L,m,d', L', m', r,h=>by
   rw [B0] at h;split at h
   · split at h
     · simp only [Prod.mk.injEq] at h
       exact ⟨[],by rw [<-h.2.2.2];rfl⟩
     · obtain ⟨p,hp⟩:=Dl h
       exact ⟨c :: p,by rw [hp];rfl⟩
   · split at h
     · obtain ⟨p,hp⟩:=Dl h
       exact ⟨c :: p,by rw [hp];rfl⟩
     · simp only [Prod.mk.injEq] at h
       exact ⟨[],by rw [<-h.2.2.2];rfl⟩
theorem Eu:∀{D:List UInt8} {l:List UInt8} {d:Bool} {L:List UInt8} {m:Nat},(∀c∈D,isD c=true)->B0 (D++l) d L m=B0 l d (L++D) (m+D.length)
 | [],l,d,L,m,_=>by simp
 | c :: D,l,d,L,m,h=>by
   have hc:=h c (List.mem_cons_self ..);have h46:c.toNat≠46:=fun e=>by simp [isD,e] at hc
   rw [List.cons_append,B0,if_neg h46,if_pos hc,Eu (fun x hx=>h x (List.mem_cons_of_mem _ hx)),List.append_assoc,List.length_cons];congr 1;omega
theorem C3:∀{l:List UInt8} {d:Bool} {L:List UInt8} {m:Nat} {d' : Bool} {L' : List UInt8} {m' : Nat} {r:List UInt8},B0 l d L m=(d', L', m', r)->L'.length<=L.length+l.length/\m' <= m+l.length
 | [],d,L,m,d', L', m', r,h=>by
   simp only [B0,Prod.mk.injEq] at h;rw [<-h.2.1,<-h.2.2.1];simp
 | c :: l,d,L,m,d', L', m', r,h=>by
   rw [B0] at h;split at h
   · split at h
     · simp only [Prod.mk.injEq] at h
       rw [<-h.2.1,<-h.2.2.1];simp
     · have:=C3 h
       simp only [List.length_cons];omega
   · split at h
     · have:=C3 h
       simp only [List.length_append,List.length_cons,List.length_nil] at this ⊢;omega
     · simp only [Prod.mk.injEq] at h
       rw [<-h.2.1,<-h.2.2.1];simp
def okC (c:UInt8):Prop:=isD c=true\/c.toNat=46\/c.toNat=101\/c.toNat=43\/c.toNat=45
theorem okC_low {c:UInt8} (h:okC c):c.toNat≠120/\c.toNat≠88/\c.toNat≠95/\c.toNat≠69:=by
 rcases h with h | h | h | h | h
 · simp [isD] at h;omega
 all_goals omega
inductive ExpAt:List UInt8->Int->Prop
 | none:ExpAt [] 0
 | bare {E:List UInt8}:E≠[]->(∀c∈E,isD c=true)->ExpAt (101 :: E) (capE E)
 | plus {E:List UInt8}:E≠[]->(∀c∈E,isD c=true)->ExpAt (101 :: 43 :: E) (capE E)
 | minus {E:List UInt8}:E≠[]->(∀c∈E,isD c=true)->ExpAt (101 :: 45 :: E) (-(capE E:Int))
structure FTxt (s:ByteArray) (neg:Bool) (d:Bool) (L:List UInt8) (m:Nat) (x:Int):Prop where
 form:∃c body rest,s.data.toList=(if neg then [45] else [])++c :: body/\isD c=true/\B0 (c :: body) false [] 0=(d,L,m,rest)/\ExpAt rest x/\(∀b∈c :: body,okC b)
 size:s.size<=1000
 ne:L≠[]
def expF (d:Bool) (L:List UInt8) (m:Nat) (x:Int):Int:=if A3 L=0 then 0 else (if d then (ndF L:Int) - m else ndF L)+x - (min 19 (ndF L):Nat)
end Go.Proofs.YtagkgfniihiinaaGreatDoor
