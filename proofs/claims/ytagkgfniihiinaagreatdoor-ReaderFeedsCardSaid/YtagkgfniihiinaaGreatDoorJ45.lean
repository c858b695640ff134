/- internal/strconv.shortFloat: its walk. -/
import Derived.Test.YtagkgfniihiinaaGreatDoorPreW
import Derived.Test.YtagkgfniihiinaaGreatDoorJ50
import Derived.Test.YtagkgfniihiinaaGreatDoorProg
import Derived.Lib.AppendStr
import Derived.Lib.SmallJoins
import Derived.Test.YtagkgfniihiinaaGreatDoorJ60
import Derived.Deep.DeepCutAuto
import Derived.Deep.LoopGhost
import Derived.Deep.CutBlock
import Derived.Lib.ItoaMem
import Derived.Lib.ItoaNum
import Derived.Lib.RowBridge
import Derived.Lib.OwnBridge
import Derived.Lib.ItoaLen
import Derived.Test.YtagkgfniihiinaaGreatDoorJ69
import Derived.Laws.FloatArith
set_option linter.all false
namespace Go.Proofs.YtagkgfniihiinaaGreatDoor
open Go.RowKit
theorem round_is (u c:Nat) (h:u<18446744073709551000) (hc:rndU u=c) (w:World):Calls Tryz.prog 178 #[.int .u64 (u:Int)] w fun e w' => e=.returned (.int .u64 (c:Int))/\w' = w:=by subst hc;exact round_any u h w
end Go.Proofs.YtagkgfniihiinaaGreatDoor
namespace Go.Proofs.YtagkgfniihiinaaGreatDoor
mutual
def V.ranged:V->Prop
 | .mk _ _ i r _ l=>-9223372036854775808<=i/\i<=9223372036854775807/\r<18446744073709551616/\V.rangedL l
def V.rangedL:List V->Prop
 | []=>True
 | x :: l=>V.ranged x/\V.rangedL l
end
theorem V.ranged_eq (v:V):v.ranged ↔ -9223372036854775808<=v.int/\v.int<=9223372036854775807/\v.real<18446744073709551616/\V.rangedL v.list:=by cases v;simp only [V.ranged,V.int,V.real,V.list]
theorem rangedL_of {l:List V} (h:∀x∈l,x.ranged):V.rangedL l:=by
 induction l with
 | nil=>trivial
 | cons y l ih=>exact ⟨h y (by simp),ih fun x hx=>h x (by simp [hx])⟩
end Go.Proofs.YtagkgfniihiinaaGreatDoor
namespace Go.Proofs.YtagkgfniihiinaaGreatDoor
open Go.RowKit
theorem Ge:∀(f x:Nat),x<2 ^ f->Lib.bitLenAux f x=Ap x
 | 0,x,h=>by
   obtain rfl:x=0:=by simpa using h
   rfl
 | f+1,x,h=>by
   unfold Lib.bitLenAux;by_cases h0:x=0
   · rw [if_pos h0,h0];rfl
   · rw [if_neg h0,Ge f (x / 2) (by rw [Nat.pow_succ] at h;omega)]
     by_cases h1:x=1
     · subst h1;rfl
     · unfold Ap
       rw [if_neg h0,if_neg (by omega),Nat.log2_def x,if_pos (by omega)];omega
theorem bitLen_eq {x:Nat} (h:x<18446744073709551616):Lib.bitLen x=Ap x:=Ge 64 x h
structure Flo (w:World):Prop where
 pows:Pows w
 tens : Lib.TabIs Tryz.prog w "internal/strconv.uint64pow10" .u64 Lib.pow10Tab
end Go.Proofs.YtagkgfniihiinaaGreatDoor
namespace Go.Proofs.YtagkgfniihiinaaGreatDoor
open Ieee
theorem cut_spec (neg:Bool) (n drop:Nat):2 * Toward.even.cut neg n drop * 2 ^ drop<=2 * n+2 ^ drop/\2 * n<=(2 * Toward.even.cut neg n drop+1) * 2 ^ drop /\
   (2 * Toward.even.cut neg n drop * 2 ^ drop=2 * n+2 ^ drop\/2 * n=(2 * Toward.even.cut neg n drop+1) * 2 ^ drop->Toward.even.cut neg n drop % 2=0):=by
 unfold Toward.cut
 simp only [Nat.shiftLeft_eq,Nat.one_mul]
 by_cases h:drop<=n.log2+2
 · rw [Nat.min_eq_left h]
   have hp:=Nat.two_pow_pos drop;generalize 2 ^ drop=G at *;have hd:=Nat.div_add_mod n G;have hm:=Nat.mod_lt n hp;obtain ⟨q,hq⟩:∃q,q=n / G:=⟨_,rfl⟩;obtain ⟨r,hr⟩:∃r,r=n % G:=⟨_,rfl⟩;rw [<-hq,<-hr];rw [<-hq,<-hr] at hd;rw [<-hr] at hm;have hqG:G * q=q * G:=Nat.mul_comm _ _;have e1:2 * q * G=2 * (q * G):=Nat.mul_assoc _ _ _;have e2:(2 * q+1) * G=2 * (q * G)+G:=by rw [Nat.add_mul,Nat.one_mul,e1]
   have e3:2 * (q+1) * G=2 * (q * G)+2 * G:=by rw [Nat.mul_add,Nat.add_mul,e1]
   have e4:(2 * (q+1)+1) * G=2 * (q * G)+3 * G:=by rw [Nat.add_mul,Nat.one_mul,e3];omega
   by_cases h1:G<2 * r
   · have:(decide (G<2 * r) || (G == 2 * r && q % 2 == 1))=true:=by simp [h1]
     rw [this];show 2 * (q+1) * G<=_/\_<=(2 * (q+1)+1) * G/\(2 * (q+1) * G=_\/_=(2 * (q+1)+1) * G->(q+1) % 2=0);rw [e3,e4];omega
   · by_cases h2:G=2 * r/\q % 2=1
     · have:(decide (G<2 * r) || (G == 2 * r && q % 2 == 1))=true:=by simp [h2.1,h2.2]
       rw [this];show 2 * (q+1) * G<=_/\_<=(2 * (q+1)+1) * G/\(2 * (q+1) * G=_\/_=(2 * (q+1)+1) * G->(q+1) % 2=0);rw [e3,e4];omega
     · have:(decide (G<2 * r) || (G == 2 * r && q % 2 == 1))=false:=by
         rw [Bool.or_eq_false_iff,Bool.and_eq_false_iff,decide_eq_false_iff_not];refine ⟨h1,?_⟩;by_cases h3:G=2 * r
         · right
           have:¬q % 2=1:=fun h4=>h2 ⟨h3,h4⟩;simpa using this
         · left;simpa using h3
       rw [this];show 2 * (q+0) * G<=_/\_<=(2 * (q+0)+1) * G/\(2 * (q+0) * G=_\/_=(2 * (q+0)+1) * G->(q+0) % 2=0);rw [Nat.add_zero,e1,e2];omega
 · rw [Nat.min_eq_right (by omega)]
   have hn:n<2 ^ (n.log2+1):=Nat.lt_log2_self;have e0:2 ^ (n.log2+2)=2 * 2 ^ (n.log2+1):=Nat.pow_succ';have hle:2 ^ (n.log2+2)<=2 ^ drop:=Nat.pow_le_pow_right (by decide) (by omega);have hd:n / 2 ^ (n.log2+2)=0:=Nat.div_eq_of_lt (by omega);have hm:n % 2 ^ (n.log2+2)=n:=Nat.mod_eq_of_lt (by omega);rw [hd,hm];have:(decide (2 ^ (n.log2+2)<2 * n) || (2 ^ (n.log2+2) == 2 * n && 0 % 2 == 1))=false:=by
     rw [Bool.or_eq_false_iff,Bool.and_eq_false_iff,decide_eq_false_iff_not];exact ⟨by omega,.inr rfl⟩
   rw [this];show 2 * (0+0) * 2 ^ drop<=_/\_<=(2 * (0+0)+1) * 2 ^ drop/\(2 * (0+0) * 2 ^ drop=_\/_=(2 * (0+0)+1) * 2 ^ drop->(0+0) % 2=0);simp only [Nat.add_zero,Nat.mul_zero,Nat.zero_mul,Nat.zero_add,Nat.one_mul];omega
theorem Fe (neg:Bool) {mag:Nat} (hm:0<mag) (Dy:Int) :
   ∃r,Ieee.double.nearest neg mag Dy=Ieee.double.word neg (min r 9218868437227405312)/\InI r (mag * 2 ^ (Dy+1075).toNat) (2 ^ (-(Dy+1075)).toNat):=by
 unfold Ieee.Format.nearest
 rw [if_neg (by omega)]
 simp only [D1,binade,inf_rung,Nat.shiftLeft_eq,show Ieee.double.fractionBits=52 from rfl]
 obtain ⟨last,hl⟩:∃last:Int,last=max (Dy+mag.log2 - ((52:Nat):Int)) (-1074):=⟨_,rfl⟩
 rw [<-hl]
 obtain ⟨k,hk⟩:∃k:Nat,last=k - 1074:=⟨(last+1074).toNat,by omega⟩
 rw [show (last - -1074).toNat=k by omega]
 obtain ⟨up,hup⟩:∃u,u=(Dy - last).toNat:=⟨_,rfl⟩
 obtain ⟨dn,hdn⟩:∃u,u=(last - Dy).toNat:=⟨_,rfl⟩
 rw [<-hup,<-hdn]
 obtain ⟨c1,c2,c3⟩:=cut_spec neg (mag * 2 ^ up) dn
 generalize hM:Toward.even.cut neg (mag * 2 ^ up) dn=m at *
 have hlo:2 ^ mag.log2<=mag:=Nat.log2_self_le (by omega)
 have hhi:mag<2 ^ (mag.log2+1):=Nat.lt_log2_self
 have hG:=Nat.two_pow_pos dn
 have b53:mag * 2 ^ up<9007199254740992 * 2 ^ dn:=by
   have:mag * 2 ^ up<2 ^ (mag.log2+1) * 2 ^ up:=Nat.mul_lt_mul_of_pos_right hhi (Nat.two_pow_pos up);rw [<-Nat.pow_add] at this;have h2:2 ^ (mag.log2+1+up)<=2 ^ (53+dn):=Nat.pow_le_pow_right (by decide) (by omega);rw [Nat.pow_add 2 53] at h2;exact Nat.lt_of_lt_of_le this h2
 have b52:k=0\/4503599627370496 * 2 ^ dn<=mag * 2 ^ up:=by
   rcases Nat.eq_zero_or_pos k with h | h
   · exact .inl h
   · right
     have:2 ^ mag.log2 * 2 ^ up<=mag * 2 ^ up:=Nat.mul_le_mul_right _ hlo;rw [<-Nat.pow_add] at this;have h2:2 ^ (52+dn)<=2 ^ (mag.log2+up):=Nat.pow_le_pow_right (by decide) (by omega);rw [Nat.pow_add 2 52] at h2;exact Nat.le_trans h2 this
 have hrel:mag * 2 ^ (Dy+1075).toNat * 2 ^ dn=2 * (mag * 2 ^ up) * 2 ^ k * 2 ^ (-(Dy+1075)).toNat:=by
   have e:2 ^ (Dy+1075).toNat * 2 ^ dn=2 * 2 ^ up * 2 ^ k * 2 ^ (-(Dy+1075)).toNat:=by
     rw [<-Nat.pow_succ', <-Nat.pow_add,<-Nat.pow_add,<-Nat.pow_add];congr 1;omega
   rw [Nat.mul_assoc,e];simp only [Nat.mul_assoc,Nat.mul_left_comm,Nat.mul_comm]
 generalize mag * 2 ^ up=n at *
 generalize mag * 2 ^ (Dy+1075).toNat=a at *
 have hb:=Nat.two_pow_pos (-(Dy+1075)).toNat
 generalize 2 ^ (-(Dy+1075)).toNat=b at *
 generalize 2 ^ dn=G at *
 have hT:0<2 ^ k * b:=Nat.mul_pos (Nat.two_pow_pos k) hb
 have eT:∀c:Nat,c * 2 ^ k * b=c * (2 ^ k * b):=fun c=>Nat.mul_assoc _ _ _
 rw [eT] at hrel
 generalize hTe:2 ^ k * b=T at *
 have m1:m<=9007199254740992:=by
   rcases Nat.lt_or_ge 9007199254740992 m with h | h
   · have:2 * 9007199254740993 * G<=2 * m * G:=Nat.mul_le_mul_right _ (by omega)
     omega
   · exact h
 have m0:k=0\/4503599627370496<=m:=by
   rcases b52 with h | h
   · exact .inl h
   · right
     rcases Nat.lt_or_ge m 4503599627370496 with h9 | h9
     · have:(2 * m+1) * G<=9007199254740991 * G:=Nat.mul_le_mul_right _ (by omega)
       omega
     · exact h9
 refine ⟨k * 4503599627370496+m,rfl,inI_of m0 m1 ?_ ?_ ?_ ?_⟩
 · rw [eT,hTe]
   refine Nat.le_of_mul_le_mul_right ?_ hG;rw [Nat.add_mul,hrel,Nat.mul_right_comm,Nat.mul_comm T G,<-Nat.add_mul];exact Nat.mul_le_mul_right _ c1
 · rw [eT]
   refine Nat.le_of_mul_le_mul_right ?_ hG;rw [hrel,Nat.mul_right_comm (2 * m+1) T G];exact Nat.mul_le_mul_right _ c2
 · rw [eT,eT,hTe]
   intro h;refine c3 ?_;rcases h with h | h
   · left
     refine Nat.eq_of_mul_eq_mul_right hT ?_;have:2 * m * T * G=(a+T) * G:=by rw [h]
     rw [Nat.add_mul,hrel,Nat.mul_right_comm,Nat.mul_comm T G,<-Nat.add_mul] at this;exact this
   · right
     refine Nat.eq_of_mul_eq_mul_right hT ?_;have:2 * n * T=(2 * m+1) * T * G:=by rw [<-hrel,h]
     rw [this,Nat.mul_right_comm]
 · rcases b52 with h | h
   · exact .inl h
   · have hm9:4503599627370496<=m:=by
       rcases Nat.lt_or_ge m 4503599627370496 with h9 | h9
       · have:(2 * m+1) * G<=9007199254740991 * G:=Nat.mul_le_mul_right _ (by omega)
         omega
       · exact h9
     rcases Nat.eq_or_lt_of_le hm9 with h9 | h9
     · right;right
       rw [eT,hTe];have:4503599627370496 * G * T<=n * T:=Nat.mul_le_mul_right _ h;have h8:2 * 4503599627370496 * T<=a:=by
         refine Nat.le_of_mul_le_mul_right ?_ hG;rw [hrel,Nat.mul_assoc 2,Nat.mul_assoc 2,Nat.mul_assoc 2 n];refine Nat.mul_le_mul_left 2 ?_;rw [Nat.mul_right_comm];exact this
       rw [<-h9];omega
     · exact .inr (.inl h9)
theorem InI.cross {r a b a' b' : Nat} (hb:0<b) (hb' : 0<b') (h:a * b' = a' * b):InI r a b ↔ InI r a' b' := by
 rw [<-InI.scale hb', <-InI.scale (a:=a') (b:=b') hb,h,Nat.mul_comm b b']
theorem InI.self {r:Nat}:InI r (2 * rv r) 1:=by
 have h1:=Gb (show r<r+1 by omega);constructor
 · rcases Nat.eq_zero_or_pos r with h | h
   · exact .inl h
   · right;left
     have h2:=Gb (show r - 1<r by omega);unfold mid;rw [show r - 1+1=r by omega];omega
 · left;unfold mid;omega
theorem rung_whole {m:Nat} (hm:0<m) (h:m<9007199254740992):∃r,rv r=m * 2 ^ 1074/\r<9218868437227405312:=by
 obtain ⟨a,b,c⟩:=F6 hm;have hl:Ap m<=53:=by
   unfold Ap;rw [if_neg (by omega)];have:=(Nat.log2_lt (n:=m) (k:=53) (by omega)).2 h;omega
 refine ⟨(1021+Ap m) * 4503599627370496+m * 2 ^ (53 - Ap m),?_,?_⟩
 · have h1:4503599627370496<=m * 2 ^ (53 - Ap m):=by
     have:2 ^ (Ap m - 1) * 2 ^ (53 - Ap m)<=m * 2 ^ (53 - Ap m):=Nat.mul_le_mul_right _ a;rw [<-Nat.pow_add,show Ap m - 1+(53 - Ap m)=52 by omega] at this;exact this
   have h2:m * 2 ^ (53 - Ap m)<=9007199254740992:=by
     have:m * 2 ^ (53 - Ap m)<=2 ^ Ap m * 2 ^ (53 - Ap m):=Nat.mul_le_mul_right _ (Nat.le_of_lt b);rw [<-Nat.pow_add,show Ap m+(53 - Ap m)=53 by omega] at this;exact this
   rw [Fy (.inr h1) h2,Nat.mul_assoc,<-Nat.pow_add];congr 2;omega
 · have h2:m * 2 ^ (53 - Ap m)<=9007199254740992:=by
     have:m * 2 ^ (53 - Ap m)<=2 ^ Ap m * 2 ^ (53 - Ap m):=Nat.mul_le_mul_right _ (Nat.le_of_lt b);rw [<-Nat.pow_add,show Ap m+(53 - Ap m)=53 by omega] at this;exact this
   omega
theorem skew_lin2 (m a b:Nat) (h:m * 2=(4 * 4503599627370496 - 1) * (2 * a * b)):m=18014398509481983 * a * b:=by
 rw [Nat.mul_assoc 2 a b] at h;rw [Nat.mul_assoc];generalize a * b=c at *;omega
theorem lin3 (n m X:Nat) (h:9007199254740992 * n<=m) (h2:m<X):18014398509481983 * n<2 * X:=by omega
theorem sticky_inI {r q X n:Nat} {p:Int} (hn:0<n) (hq:9007199254740992<=q) (hx0:q * n<=X) (hx1:X<(q+1) * n)
   (h:InI r ((2 * q+(decide (X≠q * n)).toNat) * 2 ^ p.toNat) (2 ^ (-p).toNat)):InI r (2 * X * 2 ^ p.toNat) (n * 2 ^ (-p).toNat):=by
 by_cases he:X=q * n
 · rw [show (decide (X≠q * n))=false by simp [he]] at h
   have h2:InI r (2 * q * 2 ^ p.toNat) (2 ^ (-p).toNat):=h;refine (InI.cross (Nat.two_pow_pos _) (Nat.mul_pos hn (Nat.two_pow_pos _)) ?_).1 h2;rw [he];simp only [Nat.mul_assoc,Nat.mul_left_comm,Nat.mul_comm]
 · rw [show (decide (X≠q * n))=true by simp [he]] at h
   have h2:InI r ((2 * q+1) * 2 ^ p.toNat) (2 ^ (-p).toNat):=h;clear h;have hX0:q * n<X:=by omega
   obtain ⟨s1,s2,s3⟩:=Dv r;have hmid:=mid_high r;have key:∀z:Nat,(2 * q+1<2 * z ↔ 2 * X<2 * z * n)/\(2 * z<2 * q+1 ↔ 2 * z * n<2 * X):=fun z=>by
     have e1:2 * z * n=2 * (z * n):=Nat.mul_assoc _ _ _;rw [e1];refine ⟨⟨fun h=>?_,fun h=>?_⟩,⟨fun h=>?_,fun h=>?_⟩⟩
     · have:(q+1) * n<=z * n:=Nat.mul_le_mul_right _ (by omega)
       omega
     · rcases Nat.lt_or_ge q z with h9 | h9
       · omega
       · have:z * n<=q * n:=Nat.mul_le_mul_right _ h9
         omega
     · have:z * n<=q * n:=Nat.mul_le_mul_right _ (by omega)
       omega
     · rcases Nat.lt_or_ge q z with h9 | h9
       · have:(q+1) * n<=z * n:=Nat.mul_le_mul_right _ h9
         omega
       · omega
   have lowZ:∀z:Nat,0<r->r=0\/2 * z<2 * q+1\/(2 * z=2 * q+1/\r % 2=0)->2 * z * n<2 * X:=fun z hr0 l=>by
     rcases l with l | l | ⟨l,_⟩
     · exact absurd l (Nat.pos_iff_ne_zero.1 hr0)
     · exact (key z).2.1 l
     · exact absurd l (by clear key;omega)
   have highZ:∀z:Nat,2 * q+1<2 * z\/(2 * q+1=2 * z/\r % 2=0)->2 * X<2 * z * n:=fun z l=>by
     rcases l with l | ⟨l,_⟩
     · exact (key z).1.1 l
     · exact absurd l (by clear key;omega)
   rcases Int.lt_or_le p 0 with hp | hp
   · -- units are coarser than halves of the least Dy
     obtain ⟨j,hj⟩:∃j:Nat,(-p).toNat=j+1:=⟨(-p).toNat - 1,by omega⟩;rw [show p.toNat=0 by omega,hj,Nat.pow_zero,Nat.mul_one] at h2 ⊢;have e:∀m:Nat,m * 2 ^ (j+1)=2 * (m * 2 ^ j):=fun m=>by rw [Nat.pow_succ,<-Nat.mul_assoc,Nat.mul_comm]
     have e2:∀m:Nat,m * (n * 2 ^ (j+1))=2 * (m * 2 ^ j) * n:=fun m=>by rw [Nat.mul_left_comm,e,Nat.mul_comm]
     obtain ⟨l,g⟩:=h2;rw [e] at l g;constructor
     · rcases Nat.eq_zero_or_pos r with hr0 | hr0
       · exact .inl hr0
       · right;left
         rw [e2];exact lowZ _ hr0 l
     · left
       rw [e2];exact highZ _ g
   · obtain ⟨j,rfl⟩:∃j:Nat,p=j:=⟨p.toNat,by omega⟩
     rw [Int.toNat_natCast,show (-(j:Int)).toNat=0 by omega,Nat.pow_zero,Nat.mul_one] at *;have hJ:=Nat.two_pow_pos j;have hK:j+1<=rK r:=by
       rcases Nat.lt_or_ge (rK r) (j+1) with h9 | h9
       · have g:=h2.high
         have:2 ^ rK r<=2 ^ j:=Nat.pow_le_pow_right (by decide) (by omega);have h3:(2 * rM r+1) * 2 ^ rK r<=18014398509481983 * 2 ^ j:=Nat.mul_le_mul (by omega) this;have h4:18014398509481985 * 2 ^ j<=(2 * q+1) * 2 ^ j:=Nat.mul_le_mul_right _ (by omega);rw [<-hmid] at h3;omega
       · exact h9
     have hr0:0<r:=by
       rcases Nat.eq_zero_or_pos r with h9 | h9
       · subst h9;exact absurd hK (by unfold rK;omega)
       · exact h9
     obtain ⟨i,hi⟩:∃i,rK r=j+1+i:=⟨rK r - (j+1),by omega⟩;have eK:2 ^ rK r=2 * 2 ^ i * 2 ^ j:=by rw [hi,<-Nat.pow_succ', <-Nat.pow_add];congr 1;omega
     have lt1:∀a b:Nat,a * 2 ^ j<b * 2 ^ j ↔ a<b:=fun a b=>⟨fun h=>Nat.lt_of_mul_lt_mul_right h,fun h=>Nat.mul_lt_mul_of_pos_right h hJ⟩;have eq1:∀a b:Nat,a * 2 ^ j=b * 2 ^ j ↔ a=b:=fun a b=>⟨fun h=>Nat.eq_of_mul_eq_mul_right hJ h,fun h=>by rw [h]⟩;have eh:mid r=2 * ((2 * rM r+1) * 2 ^ i) * 2 ^ j:=by rw [hmid,eK];simp only [Nat.mul_assoc,Nat.mul_left_comm]
     have hn1:∀a:Nat,a * 2 ^ j * n=a * n * 2 ^ j:=fun a=>Nat.mul_right_comm _ _ _;constructor
     · right
       cases hs:skewB r with
       | false=>
         have el:mid (r - 1)=2 * ((2 * rM r - 1) * 2 ^ i) * 2 ^ j:=by rw [mid_low hr0 hs,eK];simp only [Nat.mul_assoc,Nat.mul_left_comm]
         have l:=h2.low;simp only [Nat.mul_one] at l;rw [el] at l ⊢;rw [lt1,eq1] at l;rw [hn1,lt1];exact .inl (lowZ _ hr0 l)
       | true=>
         have h4:=mid_skew hs;rw [skewB,Bool.and_eq_true,decide_eq_true_eq,decide_eq_true_eq] at hs;have g:=h2.high;simp only [Nat.mul_one] at g;rw [eh,lt1,eq1] at g;rw [hs.1] at g h4;left;have h5:mid (r - 1)=18014398509481983 * 2 ^ i * 2 ^ j:=by
           rw [eK] at h4;exact skew_lin2 _ _ _ h4
         rcases Nat.eq_zero_or_pos i with hi0 | hi0
         · subst hi0
           rw [h5,Nat.pow_zero,Nat.mul_one,hn1,lt1];exact lin3 _ _ _ (Nat.mul_le_mul_right _ hq) hX0
         · obtain ⟨i', rfl⟩:=Nat.exists_eq_succ_of_ne_zero (Nat.pos_iff_ne_zero.1 hi0)
           have h6:mid (r - 1)=2 * (18014398509481983 * 2 ^ i') * 2 ^ j:=by
             rw [h5,Nat.pow_succ,Nat.mul_comm (2 ^ i') 2,Nat.mul_left_comm]
           have l:=h2.low;simp only [Nat.mul_one] at l;rw [h6] at l ⊢;rw [lt1,eq1] at l;rw [hn1,lt1];exact lowZ _ hr0 l
     · have g:=h2.high
       simp only [Nat.mul_one] at g;left;rw [eh] at g ⊢;rw [lt1,eq1] at g;rw [hn1,lt1];exact highZ _ g
end Go.Proofs.YtagkgfniihiinaaGreatDoor
namespace Go.Proofs.YtagkgfniihiinaaGreatDoor
open Ieee Go
theorem two_pw (d c e:Nat) (h:e=c+1):2 * (d * 2 ^ c)=d * 2 ^ e:=by rw [h,Nat.pow_succ,Nat.mul_comm (2 ^ c),Nat.mul_left_comm]
theorem mul_tp {a:Nat} (c:Nat) (h:0<a):0<a * 2 ^ c:=Nat.mul_pos h (Nat.two_pow_pos c)
theorem rv_ne {n c:Nat} (hn:0<n) (h:rv 0=n * 2 ^ c):False:=by
 have h0:rv 0=0:=rfl;have h1:=Nat.mul_pos hn (Nat.two_pow_pos c);omega
theorem word_is (neg:Bool) (x:Nat):Ieee.double.word neg x=(if neg then 9223372036854775808 else 0)+x:=by
 unfold Ieee.Format.word;rw [Ea];cases neg<;>simp
theorem write_num (neg:Bool) (m:Nat) (p:Int):Ieee.double.write (.number neg m p)=Ieee.double.nearest neg m p:=rfl
theorem flt_rung {d:Nat} (h0:0<d) (h1:d<9007199254740992):∃R,floatOfInt .f64 (d:Int)=R/\rv R=d * 2 ^ 1074/\R<9218868437227405312/\0<R:=by
 obtain ⟨R,hR,hR9⟩:=rung_whole h0 h1;have e:floatOfInt .f64 (d:Int)=Ieee.double.nearest false d 0:=by
   show Ieee.double.write (.number (decide ((d:Int)<0)) (d:Int).natAbs 0)=_;rw [decide_eq_false (by omega),Int.natAbs_natCast,write_num]
 obtain ⟨r,h2,h3⟩:=Fe false h0 0;have h4:InI R (2 * rv R) 1:=InI.self;have h5:InI r (2 * rv R) 1:=by
   rw [show (0+1075:Int).toNat=1075 by rfl,show (-(0+1075:Int)).toNat=0 by rfl,Nat.pow_zero] at h3;have:2 * rv R=d * 2 ^ 1075:=by rw [hR];exact two_pw d 1074 1075 rfl
   rw [this];exact h3
 have h6:=h5.uniq (by decide) h4;refine ⟨R,?_,hR,hR9,?_⟩
 · rw [e,h2,h6,Nat.min_eq_left (Nat.le_of_lt hR9),word_is];simp
 · rcases Nat.eq_zero_or_pos R with h | h
   · rw [h] at hR
     exact (rv_ne h0 hR).elim
   · exact h
theorem F9 {n1:Bool} {R z:Nat} (hR:R<9218868437227405312) (hR0:0<R) (hz:z<9218868437227405312) (hz0:0<z) :
   ∃r,Ieee.double.mul ((if n1 then 9223372036854775808 else 0)+R) z=some ((if n1 then 9223372036854775808 else 0)+min r 9218868437227405312)/\InI r (rv R * rv z) (2 ^ 1073):=by
 obtain ⟨m1,p1,h1,q1,e1⟩:=Cm (n:=(if n1 then 9223372036854775808 else 0)+R) (by split<;>omega)
 obtain ⟨m2,p2,h2,q2,e2⟩:=Cm (n:=z) (by omega)
 have g1:negF ((if n1 then 9223372036854775808 else 0)+R)=n1:=by unfold negF;cases n1<;>simp<;>omega
 have g2:negF z=false:=by unfold negF;simp;omega
 have k1:((if n1 then 9223372036854775808 else 0)+R) % 9223372036854775808=R:=by split<;>omega
 have k2:z % 9223372036854775808=z:=by omega
 rw [k1] at e1
 rw [k2] at e2
 rw [g1] at h1
 rw [g2] at h2
 have hm1:0<m1:=by
   rcases Nat.eq_zero_or_pos m1 with h | h
   · rw [h,Nat.zero_mul] at e1
     have:=Fd.1 e1.symm;omega
   · exact h
 have hm2:0<m2:=by
   rcases Nat.eq_zero_or_pos m2 with h | h
   · rw [h,Nat.zero_mul] at e2
     have:=Fd.1 e2.symm;omega
   · exact h
 obtain ⟨r,h3,h4⟩:=Fe n1 (Nat.mul_pos hm1 hm2) (p1+p2)
 refine ⟨r,?_,?_⟩
 · unfold Ieee.Format.mul
   rw [h1,h2];show some (Ieee.double.write (.number (n1 ^^ false) (m1 * m2) (p1+p2)))=_;rw [write_num,Bool.xor_false,h3,word_is]
 · obtain ⟨c73,hc⟩:∃c:Nat,c=1073:=⟨_,rfl⟩
   rw [<-hc];refine (InI.cross (Nat.two_pow_pos _) (Nat.two_pow_pos _) ?_).1 h4;rw [<-e1,<-e2];have hp:(2:Nat) ^ (p1+1074).toNat * 2 ^ (p2+1074).toNat * 2 ^ (-(p1+p2+1075)).toNat=2 ^ (p1+p2+1075).toNat * 2 ^ c73:=by
     rw [<-Nat.pow_add,<-Nat.pow_add,<-Nat.pow_add];congr 1;omega
   have:m1 * 2 ^ (p1+1074).toNat * (m2 * 2 ^ (p2+1074).toNat) * 2 ^ (-(p1+p2+1075)).toNat=m1 * m2 * (2 ^ (p1+1074).toNat * 2 ^ (p2+1074).toNat * 2 ^ (-(p1+p2+1075)).toNat):=by
     simp only [Nat.mul_assoc,Nat.mul_left_comm]
   rw [this,hp];simp only [Nat.mul_assoc]
theorem quo_top {m n:Nat} (hm:0<m) (hn:0<n):9007199254740992<=m * 2 ^ (54+n.log2 - m.log2) / n:=by
 rw [Nat.le_div_iff_mul_le hn];have h1:2 ^ m.log2<=m:=Nat.log2_self_le (by omega);have h2:n<2 ^ (n.log2+1):=Nat.lt_log2_self;have h3:2 ^ m.log2 * 2 ^ (54+n.log2 - m.log2)<=m * 2 ^ (54+n.log2 - m.log2):=Nat.mul_le_mul_right _ h1;rw [<-Nat.pow_add] at h3;have h4:(2:Nat) ^ (54+n.log2)<=2 ^ (m.log2+(54+n.log2 - m.log2)):=Nat.pow_le_pow_right (by decide) (by omega);have h5:(2:Nat) ^ (54+n.log2)=9007199254740992 * 2 ^ (n.log2+1):=by
   rw [show (9007199254740992:Nat)=2 ^ 53 by decide,<-Nat.pow_add];congr 1;omega
 have h6:9007199254740992 * n<=9007199254740992 * 2 ^ (n.log2+1):=Nat.mul_le_mul_left _ (Nat.le_of_lt h2);exact Nat.le_trans h6 (Nat.le_trans (Nat.le_of_eq h5.symm) (Nat.le_trans h4 h3))
theorem quo_rung {n1:Bool} {R z:Nat} (hR:R<9218868437227405312) (hR0:0<R) (hz:z<9218868437227405312) (hz0:0<z) :
   ∃r,Ieee.double.div ((if n1 then 9223372036854775808 else 0)+R) z=some ((if n1 then 9223372036854775808 else 0)+min r 9218868437227405312)/\InI r (rv R * 2 ^ 1075) (rv z):=by
 obtain ⟨m1,p1,h1,q1,e1⟩:=Cm (n:=(if n1 then 9223372036854775808 else 0)+R) (by split<;>omega)
 obtain ⟨m2,p2,h2,q2,e2⟩:=Cm (n:=z) (by omega)
 have g1:negF ((if n1 then 9223372036854775808 else 0)+R)=n1:=by unfold negF;cases n1<;>simp<;>omega
 have g2:negF z=false:=by unfold negF;simp;omega
 have k1:((if n1 then 9223372036854775808 else 0)+R) % 9223372036854775808=R:=by split<;>omega
 have k2:z % 9223372036854775808=z:=by omega
 rw [k1] at e1
 rw [k2] at e2
 rw [g1] at h1
 rw [g2] at h2
 have hm1:0<m1:=by
   rcases Nat.eq_zero_or_pos m1 with h | h
   · rw [h,Nat.zero_mul] at e1
     have:=Fd.1 e1.symm;omega
   · exact h
 have hm2:0<m2:=by
   rcases Nat.eq_zero_or_pos m2 with h | h
   · rw [h,Nat.zero_mul] at e2
     have:=Fd.1 e2.symm;omega
   · exact h
 have hq:=quo_top hm1 hm2
 obtain ⟨mo,hmo⟩:∃mo,mo=54+m2.log2 - m1.log2:=⟨_,rfl⟩
 rw [<-hmo] at hq
 obtain ⟨X,hX⟩:∃X,X=m1 * 2 ^ mo:=⟨_,rfl⟩
 rw [<-hX] at hq
 obtain ⟨P,hP⟩:∃P:Int,P=p1 - p2 - mo - 1:=⟨_,rfl⟩
 have hst:(X % m2 != 0).toNat=(decide (X≠X / m2 * m2)).toNat:=by
   have h9:=Nat.div_add_mod X m2;rw [Nat.mul_comm] at h9;congr 1;by_cases h:X % m2=0
   · have h8:X=X / m2 * m2:=by omega
     rw [show (X % m2 != 0)=false by simp [h],decide_eq_false (fun hne=>hne h8)]
   · have h8:X≠X / m2 * m2:=by omega
     rw [show (X % m2 != 0)=true by simp [h],decide_eq_true h8]
 have hmag:0<2 * (X / m2)+(X % m2 != 0).toNat:=by omega
 obtain ⟨r,h3,h4⟩:=Fe n1 hmag P
 refine ⟨r,?_,?_⟩
 · unfold Ieee.Format.div
   rw [h1,h2];unfold Ieee.Datum.quotient;simp only [Nat.pos_iff_ne_zero.1 hm2,if_false,Bool.xor_false,show Ieee.double.fractionBits+2=54 from rfl,<-hmo,Nat.shiftLeft_eq,<-hX,<-hP];show some (Ieee.double.write _)=_;rw [write_num,h3,word_is]
 · rw [hst] at h4
   have h5:=sticky_inI (p:=P+1075) hm2 hq (by have:=Nat.div_mul_le_self X m2;exact this) (by
     have h9:=Nat.div_add_mod X m2;have h8:=Nat.mod_lt X hm2;rw [Nat.add_mul,Nat.one_mul,Nat.mul_comm (X / m2)];omega) h4
   have hz9:0<rv z:=by rw [<-e2];exact Nat.mul_pos hm2 (Nat.two_pow_pos _)
   refine (InI.cross (Nat.mul_pos hm2 (Nat.two_pow_pos _)) hz9 ?_).1 h5;rw [<-e1,<-e2,hX];obtain ⟨c75,hc⟩:∃c:Nat,c=1075:=⟨_,rfl⟩;rw [<-hc];have hp:2 * 2 ^ mo * 2 ^ (P+1075).toNat * 2 ^ (p2+1074).toNat=2 ^ (p1+1074).toNat * 2 ^ c75 * 2 ^ (-(P+1075)).toNat:=by
     rw [<-Nat.pow_succ', <-Nat.pow_add,<-Nat.pow_add,<-Nat.pow_add,<-Nat.pow_add];congr 1;omega
   have e3:2 * (m1 * 2 ^ mo) * 2 ^ (P+1075).toNat * (m2 * 2 ^ (p2+1074).toNat)=m1 * m2 * (2 * 2 ^ mo * 2 ^ (P+1075).toNat * 2 ^ (p2+1074).toNat):=by
     simp only [Nat.mul_assoc,Nat.mul_left_comm]
   rw [e3,hp];simp only [Nat.mul_assoc,Nat.mul_left_comm]
end Go.Proofs.YtagkgfniihiinaaGreatDoor
