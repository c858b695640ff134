/- Two neighbours and what lies between them. -/
import Derived.WalkKit
set_option linter.all false
namespace Go.Proofs.YtagkgfniihiinaaGreatDoor
theorem far_id {A B q0 p0 q1 p1 x k r0 r1:Int} (h0:q0 * A - p0 * B=r0) (h1:p1 * B - q1 * A=r1) (det:p1 * q0 - p0 * q1=1) :
  x * A - k * B=(p1 * x - q1 * k) * r0 - (q0 * k - p0 * x) * r1:=by grind
theorem far_x {q0 p0 q1 p1 x k:Int} (det:p1 * q0 - p0 * q1=1):(p1 * x - q1 * k) * q0+(q0 * k - p0 * x) * q1=x:=by grind
theorem far_a {A B q1 p1 x k r1:Int} (hB:0<B) (hx:0<=x) (hq:0<=q1) (h1:p1 * B - q1 * A=r1) (hr:0<=r1) (hk:k * B<=x * A):0<=p1 * x - q1 * k:=by
 have e:(p1 * x - q1 * k) * B=x * r1+q1 * (x * A - k * B):=by grind
 have h2:0<=x * r1:=Int.mul_nonneg hx hr;have h3:0<=q1 * (x * A - k * B):=Int.mul_nonneg hq (by omega);have h4:0<=(p1 * x - q1 * k) * B:=by omega
 exact Int.nonneg_of_mul_nonneg_left h4 hB
theorem far_b {A B q0 p0 x k r0:Int} (hB:0<B) (hx:0<=x) (hq:0<=q0) (h0:q0 * A - p0 * B=r0) (hr:0<=r0) (hk:x * A<=k * B):0<=q0 * k - p0 * x:=by
 have e:(q0 * k - p0 * x) * B=x * r0+q0 * (k * B - x * A):=by grind
 have h2:0<=x * r0:=Int.mul_nonneg hx hr;have h3:0<=q0 * (k * B - x * A):=Int.mul_nonneg hq (by omega);have h4:0<=(q0 * k - p0 * x) * B:=by omega
 exact Int.nonneg_of_mul_nonneg_left h4 hB
theorem E8 {b r d:Int} (hb:0<=b) (hr:0<=r) (hd:d=b * r):d=0\/r<=d:=by
 rcases Int.lt_or_eq_of_le hb with h | h
 ·right
  have:0<=(b - 1) * r:=Int.mul_nonneg (by omega) hr;rw [Int.sub_mul] at this;omega
 ·left;rw [hd,<-h];omega
theorem far_lower {A B q0 p0 q1 p1 x k r0 r1 W L:Int} (hB:0<B) (hx:L<=x) (hL:0<L) (hq0:0<q0) (hq1:0<q1) (h0:q0 * A - p0 * B=r0) (h1:p1 * B - q1 * A=r1) (det:p1 * q0 - p0 * q1=1)
  (n0:0<=r0) (n1:0<=r1) (hk:k * B<=x * A)
  (hc:(r0=0/\W<=r1)\/(r1=0/\W<=r0)\/(x<q0+q1/\∃c,0<c/\(c - 1) * q0<L/\W<=c * r0)):x * A - k * B=0\/W<=x * A - k * B:=by
 have hx0:0<x:=by omega
 have d:=far_id (x:=x) (k:=k) h0 h1 det;have hxx:=far_x (x:=x) (k:=k) det;have ha:=far_a hB (by omega) (by omega) h1 n1 hk;rcases hc with ⟨z,hw⟩ | ⟨z,hw⟩ | ⟨hf,c,hc0,hcq,hw⟩
 ·-- exact from below: b<=0
  have hb:q0 * k - p0 * x<=0:=by
   have e:(q0 * k - p0 * x) * B=x * r0+q0 * (k * B - x * A):=by grind
   have h3:q0 * (k * B - x * A)<=0:=Int.mul_nonpos_of_nonneg_of_nonpos (by omega) (by omega);rw [z] at e;by_cases hp:0<q0 * k - p0 * x
   ·have:=Int.mul_pos hp hB;omega
   ·omega
  have hd:x * A - k * B=(-(q0 * k - p0 * x)) * r1:=by rw [d,z,Int.neg_mul];omega
  rcases E8 (by omega) n1 hd with h | h
  ·exact .inl h
  ·exact .inr (by omega)
 ·have hd:x * A - k * B=(p1 * x - q1 * k) * r0:=by rw [d,z];omega
  rcases E8 ha n0 hd with h | h
  ·exact .inl h
  ·exact .inr (by omega)
 ·generalize ea:p1 * x - q1 * k=a at *
  generalize eb:q0 * k - p0 * x=b at *;have ha' : 0<=a * q0:=Int.mul_nonneg ha (by omega);by_cases hbp:0<b
  ·have f:0<=(b - 1) * q1:=Int.mul_nonneg (by omega) (by omega)
   rw [Int.sub_mul] at f;by_cases ha1:a=0
   ·left
    subst ha1;have:=far_b (x:=x) (k:=k) (A:=A) (B:=B) hB (by omega) (by omega:(0:Int)<=q0) h0 n0;have hbr:0<=b * r1:=Int.mul_nonneg (by omega) n1;omega
   ·have h9:0<=(a - 1) * q0:=Int.mul_nonneg (by omega) (by omega)
    rw [Int.sub_mul] at h9;omega
  ·right
   have h5:0<=(-b) * r1:=Int.mul_nonneg (by omega) n1;have h6:0<=(-b) * q1:=Int.mul_nonneg (by omega) (by omega);rw [Int.neg_mul] at h5 h6;have h7:c<=a:=by
    by_cases h8:c<=a
    ·exact h8
    ·have h9:a * q0<=(c - 1) * q0:=Int.mul_le_mul_of_nonneg_right (by omega) (by omega)
     omega
   have h8:c * r0<=a * r0:=Int.mul_le_mul_of_nonneg_right h7 n0;omega
theorem far_upper {A B q0 p0 q1 p1 x k r0 r1 W L:Int} (hB:0<B) (hx:L<=x) (hL:0<L) (hq0:0<q0) (hq1:0<q1) (h0:q0 * A - p0 * B=r0) (h1:p1 * B - q1 * A=r1) (det:p1 * q0 - p0 * q1=1)
  (n0:0<=r0) (n1:0<=r1) (hk:x * A<=k * B)
  (hc:(r0=0/\W<=r1)\/(r1=0/\W<=r0)\/(x<q0+q1/\∃c,0<c/\(c - 1) * q1<L/\W<=c * r1)):k * B - x * A=0\/W<=k * B - x * A:=by
 have hx0:0<x:=by omega
 have d:=far_id (x:=x) (k:=k) h0 h1 det;have hxx:=far_x (x:=x) (k:=k) det;have hb:=far_b hB (by omega) (by omega) h0 n0 hk;rcases hc with ⟨z,hw⟩ | ⟨z,hw⟩ | ⟨hf,c,hc0,hcq,hw⟩
 ·have hd:k * B - x * A=(q0 * k - p0 * x) * r1:=by rw [z] at d;omega
  rcases E8 hb n1 hd with h | h
  ·exact .inl h
  ·exact .inr (by omega)
 ·have ha:p1 * x - q1 * k<=0:=by
   have e:(p1 * x - q1 * k) * B=x * r1+q1 * (x * A - k * B):=by grind
   have h3:q1 * (x * A - k * B)<=0:=Int.mul_nonpos_of_nonneg_of_nonpos (by omega) (by omega);rw [z] at e;by_cases hp:0<p1 * x - q1 * k
   ·have:=Int.mul_pos hp hB;omega
   ·omega
  have hd:k * B - x * A=(-(p1 * x - q1 * k)) * r0:=by rw [z] at d;rw [Int.neg_mul];omega
  rcases E8 (by omega) n0 hd with h | h
  ·exact .inl h
  ·exact .inr (by omega)
 ·generalize ea:p1 * x - q1 * k=a at *
  generalize eb:q0 * k - p0 * x=b at *;have hb' : 0<=b * q1:=Int.mul_nonneg hb (by omega);by_cases hap:0<a
  ·have f:0<=(a - 1) * q0:=Int.mul_nonneg (by omega) (by omega)
   rw [Int.sub_mul] at f;by_cases hb1:b=0
   ·left
    subst hb1;have har:0<=a * r0:=Int.mul_nonneg (by omega) n0;omega
   ·have h9:0<=(b - 1) * q1:=Int.mul_nonneg (by omega) (by omega)
    rw [Int.sub_mul] at h9;omega
  ·right
   have h5:0<=(-a) * r0:=Int.mul_nonneg (by omega) n0;have h6:0<=(-a) * q0:=Int.mul_nonneg (by omega) (by omega);rw [Int.neg_mul] at h5 h6;have h7:c<=b:=by
    by_cases h8:c<=b
    ·exact h8
    ·have h9:b * q1<=(c - 1) * q1:=Int.mul_le_mul_of_nonneg_right (by omega) (by omega)
     omega
   have h8:c * r1<=b * r1:=Int.mul_le_mul_of_nonneg_right h7 n1;omega
def Ch (q:Nat) (b:Bool):Nat:=if b then q / 2 * 2+1 else q
def unr (n d:Nat):Nat:=Ch (n / d) (decide (n % d≠0))
def Co (R x hi lo s:Nat):Nat:=
 if x * hi / R % 2 ^ s≠0 then Ch (x * hi / R / 2 ^ s) true
 else if x * hi % R<x * lo / R then Ch ((x * hi / R - 1) / 2 ^ s) (decide (1<x * hi % R+R - x * lo / R))
 else Ch (x * hi / R / 2 ^ s) (decide (1<x * hi % R - x * lo / R))
theorem unr_at {y E q:Nat} (h1:q * E<=y) (h2:y<(q+1) * E):unr y E=Ch q (decide (q * E≠y)):=by
 have hd:y / E=q:=Nat.div_eq_of_lt_le h1 h2;have hm:=Nat.div_add_mod y E;rw [hd,Nat.mul_comm] at hm;unfold unr;rw [hd];congr 1;rw [Bool.eq_iff_iff,decide_eq_true_iff,decide_eq_true_iff];omega
structure Clear (y E W V:Nat):Prop where
 low:∀k:Nat,k * E<=y->y=k * E\/k * E+W<y
 high:∀k:Nat,y<=k * E->y=k * E\/y+V<=k * E
theorem stick_of (q:Nat) (b:Bool) (c:Prop) [Decidable c] (h:b=true ↔ c):Ch q b=Ch q (decide c):=by
 congr 1;rw [Bool.eq_iff_iff,decide_eq_true_iff];exact h
theorem mul4 (k D S G:Nat):k * (D * S * G)=k * G * S * D:=by
 rw [Nat.mul_right_comm D S G,<-Nat.mul_assoc,<-Nat.mul_assoc,Nat.mul_right_comm k D G,Nat.mul_right_comm]
theorem uscale_gen {R x hi lo s N D:Nat} (hR:8<=R) (hx0:R<=4 * x) (hx1:x<R) (hh0:R<=2 * hi) (hh1:hi<R) (hl1:lo<R)
  (hD:0<D) (t0:(hi * R - lo - 1) * D<N) (t1:N<=(hi * R - lo) * D)
  (hc:Clear (x * N) (D * (R * R) * 2 ^ s) (R * D) (2 * R * D)) :
  Co R x hi lo s=unr (x * N) (D * (R * R) * 2 ^ s):=by
 obtain ⟨y,hy⟩:∃y,y=x * N:=⟨_,rfl⟩;rw [<-hy] at hc ⊢;obtain ⟨G,hG⟩:∃G,G=2 ^ s:=⟨_,rfl⟩;have o:0<G:=by rw [hG];exact Nat.two_pow_pos s
 have e:0<R:=by omega
 unfold Co;rw [<-hG] at hc ⊢;clear hG;obtain ⟨S,hS⟩:∃S,S=R * R:=⟨_,rfl⟩;rw [<-hS] at hc ⊢;have e1:=Nat.div_add_mod (x * hi) R;have m1:=Nat.mod_lt (x * hi) e;have e2:=Nat.div_add_mod (x * lo) R;have m2:=Nat.mod_lt (x * lo) e;have f:x * lo+x<=x * R:=by rw [<-Nat.mul_succ];exact Nat.mul_le_mul_left _ hl1
 have hxR:x * R+R<=S:=by rw [<-Nat.succ_mul,hS];exact Nat.mul_le_mul_right _ hx1
 have j:0<x * hi / R:=by
  refine Nat.div_pos ?_ e;have h8:R * R<=(4 * x) * (2 * hi):=Nat.mul_le_mul hx0 hh0;have h7:4 * x * (2 * hi)=8 * (x * hi):=by rw [Nat.mul_mul_mul_comm]
  have h6:8 * R<=R * R:=Nat.mul_le_mul_right _ hR;omega
 obtain ⟨h,hh⟩:∃h,h=x * hi / R:=⟨_,rfl⟩;obtain ⟨m,hm⟩:∃m,m=x * hi % R:=⟨_,rfl⟩;obtain ⟨n,hn⟩:∃n,n=x * lo / R:=⟨_,rfl⟩;obtain ⟨r,hr⟩:∃r,r=x * lo % R:=⟨_,rfl⟩;rw [<-hh,<-hm] at e1;rw [<-hm] at m1;rw [<-hn,<-hr] at e2;rw [<-hr] at m2;rw [<-hh] at j;rw [<-hh,<-hm,<-hn];have g1:=Nat.div_add_mod h G;have g2:=Nat.mod_lt h o;obtain ⟨q,hq⟩:∃q,q=h / G:=⟨_,rfl⟩;obtain ⟨g,hg⟩:∃g,g=h % G:=⟨_,rfl⟩;rw [<-hq,<-hg] at g1;rw [<-hg] at g2;rw [<-hg];obtain ⟨Z,hZ⟩:∃Z,Z=x * hi * R - x * lo:=⟨_,rfl⟩;have b1:y<=Z * D:=by
  have:x * N<=x * ((hi * R - lo) * D):=Nat.mul_le_mul_left _ t1;rw [<-Nat.mul_assoc,Nat.mul_sub,<-Nat.mul_assoc,<-hy,<-hZ] at this;exact this
 have b0:(Z - x) * D<y:=by
  have:x * ((hi * R - lo - 1) * D)<x * N:=Nat.mul_lt_mul_of_pos_left t0 (by omega);rw [<-Nat.mul_assoc,Nat.mul_sub,Nat.mul_sub,<-Nat.mul_assoc,Nat.mul_one,<-hy,<-hZ] at this;exact this
 have eH:x * hi * R=h * S+m * R:=by rw [<-e1,Nat.add_mul,hS,Nat.mul_comm R h,Nat.mul_assoc]
 have hnr:R * n+r+x<=x * R:=by rw [e2];exact f
 have hhS:S<=h * S:=Nat.le_mul_of_pos_left S j;have hmR:m * R+R<=S:=by rw [<-Nat.succ_mul,hS];exact Nat.mul_le_mul_right _ m1
 have hZs:Z+(R * n+r)=h * S+m * R:=by rw [hZ,eH,e2];omega
 have t:n+2<=R:=by
  by_cases h9:n+2<=R
  ·exact h9
  ·have h8:R * (R - 1)<=R * n:=Nat.mul_le_mul_left _ (by omega)
   rw [Nat.mul_sub,<-hS,Nat.mul_one] at h8;omega
 have hnR:R * n=n * R:=Nat.mul_comm R n;have eh:(h+1) * S=h * S+S:=by rw [Nat.succ_mul]
 clear f e1 e2 hy t0 t1 hh hm hn hr hh0 hh1 hl1 hx0 hZ eH;have a:∀k c:Nat,k * G<=c->c * S<=Z - x->k * (D * S * G)<y:=fun k c hk h8=>by
  rw [mul4];exact Nat.lt_of_le_of_lt (Nat.mul_le_mul_right D (Nat.le_trans (Nat.mul_le_mul_right _ hk) h8)) b0
 have b:∀k c:Nat,c<=k * G->Z<c * S->y<k * (D * S * G):=fun k c hk h8=>by
  rw [mul4];exact Nat.lt_of_le_of_lt b1 (Nat.mul_lt_mul_of_pos_right (Nat.lt_of_lt_of_le h8 (Nat.mul_le_mul_right _ hk)) hD)
 have qs:(q+1) * G=G * q+G:=by rw [Nat.add_mul,Nat.one_mul,Nat.mul_comm q G]
 have q0:q * G=G * q:=Nat.mul_comm q G;have l2:=b (q+1) (h+1) (by rw [qs];omega) (by rw [eh];omega);obtain ⟨h', hh'⟩:∃k,h=k+1:=⟨h - 1,by omega⟩;have eh' : h * S=h' * S+S:=by rw [hh', Nat.succ_mul]
 by_cases d:g≠0
 ·rw [if_pos d,<-hq]
  have l1:=a q h' (by rw [q0];omega) (by omega);rw [unr_at (Nat.le_of_lt l1) l2];exact stick_of _ _ _ ⟨fun _=>by omega,fun _=>rfl⟩
 ·rw [if_neg d]
  have d:g=0:=by omega
  by_cases hmn:m<n
  ·rw [if_pos hmn]
   have hqp:0<q:=by
    rcases Nat.eq_zero_or_pos q with h9 | h9
    ·rw [h9] at g1;omega
    ·exact h9
   obtain ⟨p,hqe⟩:∃p,q=p+1:=⟨q - 1,by omega⟩;have q1:p * G+G=h:=by rw [<-g1,d,hqe,Nat.mul_add,Nat.mul_one,Nat.mul_comm p G];rfl
   have q2:(p+1) * G=h:=by rw [Nat.add_mul,Nat.one_mul];exact q1
   have hp:(h - 1) / G=p:=Nat.div_eq_of_lt_le (by omega) (by omega);have hmn' : m * R+R<=n * R:=by rw [<-Nat.succ_mul];exact Nat.mul_le_mul_right _ hmn
   have hnS:n * R+2 * R<=S:=by rw [<-Nat.add_mul,hS];exact Nat.mul_le_mul_right _ t
   have l1:=a p h' (by omega) (by omega);have l2:=b (p+1) h (by omega) (by omega);rw [unr_at (Nat.le_of_lt l1) l2,hp];exact stick_of _ _ _ ⟨fun _=>by omega,fun _=>by rw [decide_eq_true_iff];omega⟩
  ·rw [if_neg hmn,<-hq]
   have l:q * G=h:=by rw [q0,<-g1,d];rfl
   obtain ⟨i,hi⟩:∃i,m=n+i:=⟨m - n,by omega⟩;have hmi:m * R=n * R+i * R:=by rw [hi,Nat.add_mul]
   have u:m - n=i:=by omega
   rw [u];by_cases h1:1<i
   ·have h8:2 * R<=i * R:=Nat.mul_le_mul_right _ h1
    have l1:=a q h (by omega) (by omega);rw [unr_at (Nat.le_of_lt l1) l2];exact stick_of _ _ _ ⟨fun _=>by omega,fun _=>by rw [decide_eq_true_iff];omega⟩
   ·-- within the window: exact
    have h8:i * R<=1 * R:=Nat.mul_le_mul_right _ (by omega);rw [Nat.one_mul] at h8;have c1:q * (D * S * G)<y+2 * R * D:=by
     rw [mul4,l];have:h * S * D<=(Z - x+2 * R) * D:=Nat.mul_le_mul_right D (by omega);rw [Nat.add_mul] at this;omega
    have c2:y<=q * (D * S * G)+R * D:=by
     rw [mul4,l];have:Z * D<=(h * S+R) * D:=Nat.mul_le_mul_right D (by omega);rw [Nat.add_mul] at this;omega
    have ey:y=q * (D * S * G):=by
     rcases Nat.le_total (q * (D * S * G)) y with h9 | h9
     ·rcases hc.low q h9 with h8 | h8
      ·exact h8
      ·omega
     ·rcases hc.high q h9 with h8 | h8
      ·exact h8
      ·omega
    rw [unr_at (by omega) l2];exact stick_of _ _ _ ⟨fun h9=>by rw [decide_eq_true_iff] at h9;omega,fun h9=>absurd ey.symm h9⟩
def nearGo:Nat->Nat->Nat->Nat->Nat->Nat->Nat × Nat
 | 0,_,ql,qu,_,_=>(ql,qu)
 | n+1,Q,ql,qu,r,s=>
  cond (Nat.beq r 0 || Nat.beq s 0) (ql,qu)
   (cond (Nat.ble s r)
    ((fun kk=>cond (Nat.beq kk 0) (ql,qu) (nearGo n Q (ql+kk * qu) qu (r - kk * s) s)) (cond (Nat.ble (r / s) ((Q - 1 - ql) / qu)) (r / s) ((Q - 1 - ql) / qu)))
    ((fun kk=>cond (Nat.beq kk 0) (ql,qu) (nearGo n Q ql (qu+kk * ql) r (s - kk * r))) (cond (Nat.ble (s / r) ((Q - 1 - qu) / ql)) (s / r) ((Q - 1 - qu) / ql))))
def nearRow (s j i:Nat):Nat × Nat:=
 (fun p:Int=>(fun k:Int=>(fun A B:Nat=>nearGo 200 (2 ^ (64 - j)) 1 1 (A % B) (B - A % B)) (10 ^ p.toNat * 2 ^ k.toNat) (10 ^ (-p).toNat * 2 ^ (-k).toNat * 2 ^ (128+s - j))) (127 - p * 108853 / 32768)) ((i:Int) - 348)
def certF:List (Nat × Nat):=(List.range 696).map (nearRow 4 9)
def certP:List (Nat × Nat):=(List.range 696).map (nearRow 8 0)
end Go.Proofs.YtagkgfniihiinaaGreatDoor
namespace Go.Proofs.YtagkgfniihiinaaGreatDoor
open Go
theorem or_one (q:Nat):q ||| 1=q / 2 * 2+1:=by
 refine Nat.eq_of_testBit_eq fun i=>?_;rw [Nat.testBit_or];cases i with
 | zero=>simp
 | succ i=>simp [Nat.testBit_succ];congr 1;omega
theorem or_stick (q:Nat) (b:Bool):q ||| b.toNat=Ch q b:=by
 cases b
 ·simp [Ch]
 ·exact or_one q
theorem Cc (x:Nat) (h:x<18446744073709551616):(BitVec.ofInt 64 (x:Int)).toNat=x:=by
 rw [BitVec.toNat_ofInt];omega
theorem Bj {x y:Nat} (hx:x<18446744073709551616) (hy:y<18446744073709551616):bits .or .u64 (x:Int) (y:Int)=((x ||| y:Nat):Int):=by
 have h:x ||| y<2 ^ 64:=Nat.or_lt_two_pow (by omega) (by omega);show IntKind.u64.wrap (((BitVec.ofInt 64 (x:Int)) ||| (BitVec.ofInt 64 (y:Int))).toNat:Int)=_;rw [BitVec.toNat_or,Cc x hx,Cc y hy];simp [IntKind.wrap,IntKind.bits,IntKind.signed];omega
theorem Cb {x y:Nat} (hx:x<18446744073709551616) (hy:y<18446744073709551616):bits .and .u64 (x:Int) (y:Int)=((x &&& y:Nat):Int):=by
 have h:x &&& y<2 ^ 64:=Nat.and_lt_two_pow _ (by omega);show IntKind.u64.wrap (((BitVec.ofInt 64 (x:Int)) &&& (BitVec.ofInt 64 (y:Int))).toNat:Int)=_;rw [BitVec.toNat_and,Cc x hx,Cc y hy];simp [IntKind.wrap,IntKind.bits,IntKind.signed];omega
theorem D6 {x y:Nat} (hx:x<9223372036854775808) (hy:y<9223372036854775808):bits .and .i64 (x:Int) (y:Int)=((x &&& y:Nat):Int):=by
 have h:x &&& y<2 ^ 63:=Nat.and_lt_two_pow _ (by omega);show IntKind.i64.wrap (((BitVec.ofInt 64 (x:Int)) &&& (BitVec.ofInt 64 (y:Int))).toNat:Int)=_;rw [BitVec.toNat_and,Cc x (by omega),Cc y (by omega)];simp [IntKind.wrap,IntKind.bits,IntKind.signed];omega
theorem and_63 (s:Nat):s &&& 63=s % 64:=Nat.and_two_pow_sub_one_eq_mod s 6
theorem and_1 (s:Nat):s &&& 1=s % 2:=Nat.and_two_pow_sub_one_eq_mod s 1
