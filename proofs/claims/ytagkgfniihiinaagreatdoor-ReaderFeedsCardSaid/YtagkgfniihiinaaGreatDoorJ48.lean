/- Two neighbours and what lies between them: how near multiples of A come to multiples of B (no program in sight). -/
import Derived.WalkKit
set_option linter.all false
namespace Go.Proofs.YtagkgfniihiinaaGreatDoor
theorem far_id {A B q0 p0 q1 p1 x k r0 r1:Int} (h0:q0 * A - p0 * B=r0) (h1:p1 * B - q1 * A=r1) (det:p1 * q0 - p0 * q1=1) :
   x * A - k * B=(p1 * x - q1 * k) * r0 - (q0 * k - p0 * x) * r1:=by grind
theorem far_x {q0 p0 q1 p1 x k:Int} (det:p1 * q0 - p0 * q1=1):(p1 * x - q1 * k) * q0+(q0 * k - p0 * x) * q1=x:=by grind
theorem far_a {A B q1 p1 x k r1:Int} (hB:0<B) (hx:0<=x) (hq:0<=q1) (h1:p1 * B - q1 * A=r1) (hr:0<=r1) (hk:k * B<=x * A):0<=p1 * x - q1 * k:=by
 have e:(p1 * x - q1 * k) * B=x * r1+q1 * (x * A - k * B):=by grind
 have h2:0<=x * r1:=Int.mul_nonneg hx hr;have h3:0<=q1 * (x * A - k * B):=Int.mul_nonneg hq (by omega);have h4:0<=(p1 * x - q1 * k) * B:=by omega
 exact Int.nonneg_of_mul_nonneg_left h4 hB
theorem far_b {A B q0 p0 x k r0:Int} (hB:0<B) (hx:0<=x) (hq:0<=q0) (h0:q0 * A - p0 * B=r0) (hr:0<=r0) (hk:x * A<=k * B):0<=q0 * k - p0 * x:=by
 have e:(q0 * k - p0 * x) * B=x * r0+q0 * (k * B - x * A):=by grind
 have h2:0<=x * r0:=Int.mul_nonneg hx hr;have h3:0<=q0 * (k * B - x * A):=Int.mul_nonneg hq (by omega);have h4:0<=(q0 * k - p0 * x) * B:=by omega
 exact Int.nonneg_of_mul_nonneg_left h4 hB
theorem D5 {b r d:Int} (hb:0<=b) (hr:0<=r) (hd:d=b * r):d=0\/r<=d:=by
 rcases Int.lt_or_eq_of_le hb with h | h
 · right
   have:0<=(b - 1) * r:=Int.mul_nonneg (by omega) hr;rw [Int.sub_mul] at this;omega
 · left;rw [hd,<-h];omega
theorem far_lower {A B q0 p0 q1 p1 x k r0 r1 W L:Int} (hB:0<B) (hx:L<=x) (hL:0<L) (hq0:0<q0) (hq1:0<q1) (h0:q0 * A - p0 * B=r0) (h1:p1 * B - q1 * A=r1) (det:p1 * q0 - p0 * q1=1)
   (n0:0<=r0) (n1:0<=r1) (hk:k * B<=x * A)
   (hc:(r0=0/\W<=r1)\/(r1=0/\W<=r0)\/(x<q0+q1/\∃c,0<c/\(c - 1) * q0<L/\W<=c * r0)):x * A - k * B=0\/W<=x * A - k * B:=by
 have hx0:0<x:=by omega
 have hid:=far_id (x:=x) (k:=k) h0 h1 det
 have hxx:=far_x (x:=x) (k:=k) det
 have ha:=far_a hB (by omega) (by omega) h1 n1 hk
 rcases hc with ⟨z,hw⟩ | ⟨z,hw⟩ | ⟨hf,c,hc0,hcq,hw⟩
 · -- exact from below: b<=0
   have hb:q0 * k - p0 * x<=0:=by
     have e:(q0 * k - p0 * x) * B=x * r0+q0 * (k * B - x * A):=by grind
     have h3:q0 * (k * B - x * A)<=0:=Int.mul_nonpos_of_nonneg_of_nonpos (by omega) (by omega);rw [z] at e;by_cases hp:0<q0 * k - p0 * x
     · have:=Int.mul_pos hp hB;omega
     · omega
   have hd:x * A - k * B=(-(q0 * k - p0 * x)) * r1:=by rw [hid,z,Int.neg_mul];omega
   rcases D5 (by omega) n1 hd with h | h
   · exact .inl h
   · exact .inr (by omega)
 · have hd:x * A - k * B=(p1 * x - q1 * k) * r0:=by rw [hid,z];omega
   rcases D5 ha n0 hd with h | h
   · exact .inl h
   · exact .inr (by omega)
 · generalize ea:p1 * x - q1 * k=a at *
   generalize eb:q0 * k - p0 * x=b at *;have ha' : 0<=a * q0:=Int.mul_nonneg ha (by omega);by_cases hbp:0<b
   · have hb1:0<=(b - 1) * q1:=Int.mul_nonneg (by omega) (by omega)
     rw [Int.sub_mul] at hb1;by_cases ha1:a=0
     · left
       subst ha1;have:=far_b (x:=x) (k:=k) (A:=A) (B:=B) hB (by omega) (by omega:(0:Int)<=q0) h0 n0;have hbr:0<=b * r1:=Int.mul_nonneg (by omega) n1;omega
     · have h9:0<=(a - 1) * q0:=Int.mul_nonneg (by omega) (by omega)
       rw [Int.sub_mul] at h9;omega
   · right
     have h5:0<=(-b) * r1:=Int.mul_nonneg (by omega) n1;have h6:0<=(-b) * q1:=Int.mul_nonneg (by omega) (by omega);rw [Int.neg_mul] at h5 h6;have h7:c<=a:=by
       by_cases h8:c<=a
       · exact h8
       · have h9:a * q0<=(c - 1) * q0:=Int.mul_le_mul_of_nonneg_right (by omega) (by omega)
         omega
     have h8:c * r0<=a * r0:=Int.mul_le_mul_of_nonneg_right h7 n0;omega
theorem far_upper {A B q0 p0 q1 p1 x k r0 r1 W L:Int} (hB:0<B) (hx:L<=x) (hL:0<L) (hq0:0<q0) (hq1:0<q1) (h0:q0 * A - p0 * B=r0) (h1:p1 * B - q1 * A=r1) (det:p1 * q0 - p0 * q1=1)
   (n0:0<=r0) (n1:0<=r1) (hk:x * A<=k * B)
   (hc:(r0=0/\W<=r1)\/(r1=0/\W<=r0)\/(x<q0+q1/\∃c,0<c/\(c - 1) * q1<L/\W<=c * r1)):k * B - x * A=0\/W<=k * B - x * A:=by
 have hx0:0<x:=by omega
 have hid:=far_id (x:=x) (k:=k) h0 h1 det
 have hxx:=far_x (x:=x) (k:=k) det
 have hb:=far_b hB (by omega) (by omega) h0 n0 hk
 rcases hc with ⟨z,hw⟩ | ⟨z,hw⟩ | ⟨hf,c,hc0,hcq,hw⟩
 · have hd:k * B - x * A=(q0 * k - p0 * x) * r1:=by rw [z] at hid;omega
   rcases D5 hb n1 hd with h | h
   · exact .inl h
   · exact .inr (by omega)
 · have ha:p1 * x - q1 * k<=0:=by
     have e:(p1 * x - q1 * k) * B=x * r1+q1 * (x * A - k * B):=by grind
     have h3:q1 * (x * A - k * B)<=0:=Int.mul_nonpos_of_nonneg_of_nonpos (by omega) (by omega);rw [z] at e;by_cases hp:0<p1 * x - q1 * k
     · have:=Int.mul_pos hp hB;omega
     · omega
   have hd:k * B - x * A=(-(p1 * x - q1 * k)) * r0:=by rw [z] at hid;rw [Int.neg_mul];omega
   rcases D5 (by omega) n0 hd with h | h
   · exact .inl h
   · exact .inr (by omega)
 · generalize ea:p1 * x - q1 * k=a at *
   generalize eb:q0 * k - p0 * x=b at *;have hb' : 0<=b * q1:=Int.mul_nonneg hb (by omega);by_cases hap:0<a
   · have ha1:0<=(a - 1) * q0:=Int.mul_nonneg (by omega) (by omega)
     rw [Int.sub_mul] at ha1;by_cases hb1:b=0
     · left
       subst hb1;have har:0<=a * r0:=Int.mul_nonneg (by omega) n0;omega
     · have h9:0<=(b - 1) * q1:=Int.mul_nonneg (by omega) (by omega)
       rw [Int.sub_mul] at h9;omega
   · right
     have h5:0<=(-a) * r0:=Int.mul_nonneg (by omega) n0;have h6:0<=(-a) * q0:=Int.mul_nonneg (by omega) (by omega);rw [Int.neg_mul] at h5 h6;have h7:c<=b:=by
       by_cases h8:c<=b
       · exact h8
       · have h9:b * q1<=(c - 1) * q1:=Int.mul_le_mul_of_nonneg_right (by omega) (by omega)
         omega
     have h8:c * r1<=b * r1:=Int.mul_le_mul_of_nonneg_right h7 n1;omega
def B7 (q:Nat) (b:Bool):Nat:=if b then q / 2 * 2+1 else q
def unr (n d:Nat):Nat:=B7 (n / d) (decide (n % d≠0))
def C2 (R x hi lo s:Nat):Nat:=
 if x * hi / R % 2 ^ s≠0 then B7 (x * hi / R / 2 ^ s) true
 else if x * hi % R<x * lo / R then B7 ((x * hi / R - 1) / 2 ^ s) (decide (1<x * hi % R+R - x * lo / R))
 else B7 (x * hi / R / 2 ^ s) (decide (1<x * hi % R - x * lo / R))
theorem unr_at {y E q:Nat} (h1:q * E<=y) (h2:y<(q+1) * E):unr y E=B7 q (decide (q * E≠y)):=by
 have hd:y / E=q:=Nat.div_eq_of_lt_le h1 h2;have hm:=Nat.div_add_mod y E;rw [hd,Nat.mul_comm] at hm;unfold unr;rw [hd];congr 1;rw [Bool.eq_iff_iff,decide_eq_true_iff,decide_eq_true_iff];omega
structure Clear (y E W V:Nat):Prop where
 low:∀k:Nat,k * E<=y->y=k * E\/k * E+W<y
 high:∀k:Nat,y<=k * E->y=k * E\/y+V<=k * E
theorem Gc (q:Nat) (b:Bool) (c:Prop) [Decidable c] (h:b=true ↔ c):B7 q b=B7 q (decide c):=by
 congr 1;rw [Bool.eq_iff_iff,decide_eq_true_iff];exact h
theorem mul4 (k D S G:Nat):k * (D * S * G)=k * G * S * D:=by
 rw [Nat.mul_right_comm D S G,<-Nat.mul_assoc,<-Nat.mul_assoc,Nat.mul_right_comm k D G,Nat.mul_right_comm]
theorem uscale_gen {R x hi lo s N D:Nat} (hR:8<=R) (hx0:R<=4 * x) (hx1:x<R) (hh0:R<=2 * hi) (hh1:hi<R) (hl1:lo<R)
   (hD:0<D) (t0:(hi * R - lo - 1) * D<N) (t1:N<=(hi * R - lo) * D)
   (hc:Clear (x * N) (D * (R * R) * 2 ^ s) (R * D) (2 * R * D)) :
   C2 R x hi lo s=unr (x * N) (D * (R * R) * 2 ^ s):=by
 obtain ⟨y,hy⟩:∃y,y=x * N:=⟨_,rfl⟩
 rw [<-hy] at hc ⊢
 obtain ⟨G,hG⟩:∃G,G=2 ^ s:=⟨_,rfl⟩
 have hGp:0<G:=by rw [hG];exact Nat.two_pow_pos s
 have hRp:0<R:=by omega
 unfold C2
 rw [<-hG] at hc ⊢
 clear hG
 obtain ⟨S,hS⟩:∃S,S=R * R:=⟨_,rfl⟩
 rw [<-hS] at hc ⊢
 have e1:=Nat.div_add_mod (x * hi) R
 have m1:=Nat.mod_lt (x * hi) hRp
 have e2:=Nat.div_add_mod (x * lo) R
 have m2:=Nat.mod_lt (x * lo) hRp
 have hxl:x * lo+x<=x * R:=by rw [<-Nat.mul_succ];exact Nat.mul_le_mul_left _ hl1
 have hxR:x * R+R<=S:=by rw [<-Nat.succ_mul,hS];exact Nat.mul_le_mul_right _ hx1
 have hh9:0<x * hi / R:=by
   refine Nat.div_pos ?_ hRp;have h8:R * R<=(4 * x) * (2 * hi):=Nat.mul_le_mul hx0 hh0;have h7:4 * x * (2 * hi)=8 * (x * hi):=by rw [Nat.mul_mul_mul_comm]
   have h6:8 * R<=R * R:=Nat.mul_le_mul_right _ hR;omega
 obtain ⟨h,hh⟩:∃h,h=x * hi / R:=⟨_,rfl⟩
 obtain ⟨m,hm⟩:∃m,m=x * hi % R:=⟨_,rfl⟩
 obtain ⟨n,hn⟩:∃n,n=x * lo / R:=⟨_,rfl⟩
 obtain ⟨r,hr⟩:∃r,r=x * lo % R:=⟨_,rfl⟩
 rw [<-hh,<-hm] at e1
 rw [<-hm] at m1
 rw [<-hn,<-hr] at e2
 rw [<-hr] at m2
 rw [<-hh] at hh9
 rw [<-hh,<-hm,<-hn]
 have g1:=Nat.div_add_mod h G
 have g2:=Nat.mod_lt h hGp
 obtain ⟨q,hq⟩:∃q,q=h / G:=⟨_,rfl⟩
 obtain ⟨g,hg⟩:∃g,g=h % G:=⟨_,rfl⟩
 rw [<-hq,<-hg] at g1
 rw [<-hg] at g2
 rw [<-hg]
 obtain ⟨Z,hZ⟩:∃Z,Z=x * hi * R - x * lo:=⟨_,rfl⟩
 have b1:y<=Z * D:=by
   have:x * N<=x * ((hi * R - lo) * D):=Nat.mul_le_mul_left _ t1;rw [<-Nat.mul_assoc,Nat.mul_sub,<-Nat.mul_assoc,<-hy,<-hZ] at this;exact this
 have b0:(Z - x) * D<y:=by
   have:x * ((hi * R - lo - 1) * D)<x * N:=Nat.mul_lt_mul_of_pos_left t0 (by omega);rw [<-Nat.mul_assoc,Nat.mul_sub,Nat.mul_sub,<-Nat.mul_assoc,Nat.mul_one,<-hy,<-hZ] at this;exact this
 have eH:x * hi * R=h * S+m * R:=by rw [<-e1,Nat.add_mul,hS,Nat.mul_comm R h,Nat.mul_assoc]
 have hnr:R * n+r+x<=x * R:=by rw [e2];exact hxl
 have hhS:S<=h * S:=Nat.le_mul_of_pos_left S hh9
 have hmR:m * R+R<=S:=by rw [<-Nat.succ_mul,hS];exact Nat.mul_le_mul_right _ m1
 have hZs:Z+(R * n+r)=h * S+m * R:=by rw [hZ,eH,e2];omega
 have hn9:n+2<=R:=by
   by_cases h9:n+2<=R
   · exact h9
   · have h8:R * (R - 1)<=R * n:=Nat.mul_le_mul_left _ (by omega)
     rw [Nat.mul_sub,<-hS,Nat.mul_one] at h8;omega
 have hnR:R * n=n * R:=Nat.mul_comm R n
 have eh:(h+1) * S=h * S+S:=by rw [Nat.succ_mul]
 clear hxl e1 e2 hy t0 t1 hh hm hn hr hh0 hh1 hl1 hx0 hZ eH
 have lowD:∀k c:Nat,k * G<=c->c * S<=Z - x->k * (D * S * G)<y:=fun k c hk h8=>by
   rw [mul4];exact Nat.lt_of_le_of_lt (Nat.mul_le_mul_right D (Nat.le_trans (Nat.mul_le_mul_right _ hk) h8)) b0
 have highD:∀k c:Nat,c<=k * G->Z<c * S->y<k * (D * S * G):=fun k c hk h8=>by
   rw [mul4];exact Nat.lt_of_le_of_lt b1 (Nat.mul_lt_mul_of_pos_right (Nat.lt_of_lt_of_le h8 (Nat.mul_le_mul_right _ hk)) hD)
 have qs:(q+1) * G=G * q+G:=by rw [Nat.add_mul,Nat.one_mul,Nat.mul_comm q G]
 have q0:q * G=G * q:=Nat.mul_comm q G
 have l2:=highD (q+1) (h+1) (by rw [qs];omega) (by rw [eh];omega)
 obtain ⟨h', hh'⟩:∃k,h=k+1:=⟨h - 1,by omega⟩
 have eh' : h * S=h' * S+S:=by rw [hh', Nat.succ_mul]
 by_cases hg0:g≠0
 · rw [if_pos hg0,<-hq]
   have l1:=lowD q h' (by rw [q0];omega) (by omega);rw [unr_at (Nat.le_of_lt l1) l2];exact Gc _ _ _ ⟨fun _=>by omega,fun _=>rfl⟩
 · rw [if_neg hg0]
   have hg0:g=0:=by omega
   by_cases hmn:m<n
   · rw [if_pos hmn]
     have hqp:0<q:=by
       rcases Nat.eq_zero_or_pos q with h9 | h9
       · rw [h9] at g1;omega
       · exact h9
     obtain ⟨p,hqe⟩:∃p,q=p+1:=⟨q - 1,by omega⟩;have q1:p * G+G=h:=by rw [<-g1,hg0,hqe,Nat.mul_add,Nat.mul_one,Nat.mul_comm p G];rfl
     have q2:(p+1) * G=h:=by rw [Nat.add_mul,Nat.one_mul];exact q1
     have hp:(h - 1) / G=p:=Nat.div_eq_of_lt_le (by omega) (by omega);have hmn' : m * R+R<=n * R:=by rw [<-Nat.succ_mul];exact Nat.mul_le_mul_right _ hmn
     have hnS:n * R+2 * R<=S:=by rw [<-Nat.add_mul,hS];exact Nat.mul_le_mul_right _ hn9
     have l1:=lowD p h' (by omega) (by omega);have l2:=highD (p+1) h (by omega) (by omega);rw [unr_at (Nat.le_of_lt l1) l2,hp];exact Gc _ _ _ ⟨fun _=>by omega,fun _=>by rw [decide_eq_true_iff];omega⟩
   · rw [if_neg hmn,<-hq]
     have hqh:q * G=h:=by rw [q0,<-g1,hg0];rfl
     obtain ⟨i,hi⟩:∃i,m=n+i:=⟨m - n,by omega⟩;have hmi:m * R=n * R+i * R:=by rw [hi,Nat.add_mul]
     have him:m - n=i:=by omega
     rw [him];by_cases h1:1<i
     · have h8:2 * R<=i * R:=Nat.mul_le_mul_right _ h1
       have l1:=lowD q h (by omega) (by omega);rw [unr_at (Nat.le_of_lt l1) l2];exact Gc _ _ _ ⟨fun _=>by omega,fun _=>by rw [decide_eq_true_iff];omega⟩
     · -- within the window: exact
       have h8:i * R<=1 * R:=Nat.mul_le_mul_right _ (by omega);rw [Nat.one_mul] at h8;have c1:q * (D * S * G)<y+2 * R * D:=by
         rw [mul4,hqh];have:h * S * D<=(Z - x+2 * R) * D:=Nat.mul_le_mul_right D (by omega);rw [Nat.add_mul] at this;omega
       have c2:y<=q * (D * S * G)+R * D:=by
         rw [mul4,hqh];have:Z * D<=(h * S+R) * D:=Nat.mul_le_mul_right D (by omega);rw [Nat.add_mul] at this;omega
       have ey:y=q * (D * S * G):=by
         rcases Nat.le_total (q * (D * S * G)) y with h9 | h9
         · rcases hc.low q h9 with h8 | h8
           · exact h8
           · omega
         · rcases hc.high q h9 with h8 | h8
           · exact h8
           · omega
       rw [unr_at (by omega) l2];exact Gc _ _ _ ⟨fun h9=>by rw [decide_eq_true_iff] at h9;omega,fun h9=>absurd ey.symm h9⟩
def nearGo:Nat->Nat->Nat->Nat->Nat->Nat->Nat × Nat
 | 0,_,ql,qu,_,_=>(ql,qu)
 | n+1,Q,ql,qu,r,s=>
   cond (Nat.beq r 0 || Nat.beq s 0) (ql,qu)
     (cond (Nat.ble s r)
       ((fun kk=>cond (Nat.beq kk 0) (ql,qu) (nearGo n Q (ql+kk * qu) qu (r - kk * s) s)) (cond (Nat.ble (r / s) ((Q - 1 - ql) / qu)) (r / s) ((Q - 1 - ql) / qu)))
       ((fun kk=>cond (Nat.beq kk 0) (ql,qu) (nearGo n Q ql (qu+kk * ql) r (s - kk * r))) (cond (Nat.ble (s / r) ((Q - 1 - qu) / ql)) (s / r) ((Q - 1 - qu) / ql))))
def nearRow (s j i:Nat):Nat × Nat:=
 (fun p:Int=>(fun k:Int=>(fun A B:Nat=>nearGo 200 (2 ^ (64 - j)) 1 1 (A % B) (B - A % B)) (10 ^ p.toNat * 2 ^ k.toNat) (10 ^ (-p).toNat * 2 ^ (-k).toNat * 2 ^ (128+s - j))) (127 - p * 108853 / 32768)) ((i:Int) - 348)
def certP:List (Nat × Nat):=(List.range 696).map (nearRow 8 0)
end Go.Proofs.YtagkgfniihiinaaGreatDoor
namespace Go.Proofs.YtagkgfniihiinaaGreatDoor
open Go
theorem or_one (q:Nat):q ||| 1=q / 2 * 2+1:=by
 refine Nat.eq_of_testBit_eq fun i=>?_;rw [Nat.testBit_or];cases i with
 | zero=>simp
 | succ i=>simp [Nat.testBit_succ];congr 1;omega
theorem or_stick (q:Nat) (b:Bool):q ||| b.toNat=B7 q b:=by
 cases b
 · simp [B7]
 · exact or_one q
theorem Bs (x:Nat) (h:x<18446744073709551616):(BitVec.ofInt 64 (x:Int)).toNat=x:=by
 rw [BitVec.toNat_ofInt];omega
theorem Bm {x y:Nat} (hx:x<18446744073709551616) (hy:y<18446744073709551616):bits .or .u64 (x:Int) (y:Int)=((x ||| y:Nat):Int):=by
 have h:x ||| y<2 ^ 64:=Nat.or_lt_two_pow (by omega) (by omega);show IntKind.u64.wrap (((BitVec.ofInt 64 (x:Int)) ||| (BitVec.ofInt 64 (y:Int))).toNat:Int)=_;rw [BitVec.toNat_or,Bs x hx,Bs y hy];simp [IntKind.wrap,IntKind.bits,IntKind.signed];omega
theorem Ce {x y:Nat} (hx:x<18446744073709551616) (hy:y<18446744073709551616):bits .and .u64 (x:Int) (y:Int)=((x &&& y:Nat):Int):=by
 have h:x &&& y<2 ^ 64:=Nat.and_lt_two_pow _ (by omega);show IntKind.u64.wrap (((BitVec.ofInt 64 (x:Int)) &&& (BitVec.ofInt 64 (y:Int))).toNat:Int)=_;rw [BitVec.toNat_and,Bs x hx,Bs y hy];simp [IntKind.wrap,IntKind.bits,IntKind.signed];omega
theorem bits_andI64 {x y:Nat} (hx:x<9223372036854775808) (hy:y<9223372036854775808):bits .and .i64 (x:Int) (y:Int)=((x &&& y:Nat):Int):=by
 have h:x &&& y<2 ^ 63:=Nat.and_lt_two_pow _ (by omega);show IntKind.i64.wrap (((BitVec.ofInt 64 (x:Int)) &&& (BitVec.ofInt 64 (y:Int))).toNat:Int)=_;rw [BitVec.toNat_and,Bs x (by omega),Bs y (by omega)];simp [IntKind.wrap,IntKind.bits,IntKind.signed];omega
theorem and_63 (s:Nat):s &&& 63=s % 64:=Nat.and_two_pow_sub_one_eq_mod s 6
theorem and_1 (s:Nat):s &&& 1=s % 2:=Nat.and_two_pow_sub_one_eq_mod s 1
end Go.Proofs.YtagkgfniihiinaaGreatDoor
namespace Go.Proofs.YtagkgfniihiinaaGreatDoor
def lp10 (p:Int):Int:=p * 108853 / 32768
def tN (p:Int):Nat:=10 ^ p.toNat * 2 ^ (127 - lp10 p).toNat
def tD (p:Int):Nat:=10 ^ (-p).toNat * 2 ^ (lp10 p - 127).toNat
def pmT (p:Int):Nat:=(tN p+tD p - 1) / tD p
def hiT (p:Int):Nat:=(pmT p+18446744073709551615) / 18446744073709551616
def loT (p:Int):Nat:=hiT p * 18446744073709551616 - pmT p
theorem tN_pos (p:Int):0<tN p:=Nat.mul_pos (Nat.pow_pos (by decide)) (Nat.two_pow_pos _)
theorem E3 (p:Int):0<tD p:=Nat.mul_pos (Nat.pow_pos (by decide)) (Nat.two_pow_pos _)
theorem pm_eq (p:Int):hiT p * 18446744073709551616 - loT p=pmT p:=by unfold loT hiT;omega
theorem lo_lt (p:Int):loT p<18446744073709551616:=by unfold loT hiT;omega
theorem pm_up (p:Int):tN p<=pmT p * tD p:=by
 have hD:=E3 p;have h:=Nat.div_add_mod (tN p+tD p - 1) (tD p);have h2:=Nat.mod_lt (tN p+tD p - 1) hD;unfold pmT;rw [Nat.mul_comm];generalize tD p * ((tN p+tD p - 1) / tD p)=z at *;omega
theorem pm_low (p:Int):(pmT p - 1) * tD p<tN p:=by
 have hD:=E3 p;have hN:=tN_pos p;have h:=Nat.div_mul_le_self (tN p+tD p - 1) (tD p);unfold pmT;rw [Nat.sub_mul,Nat.one_mul];generalize (tN p+tD p - 1) / tD p * tD p=z at *;omega
def okF (s j L:Nat) (p:Int) (c:Nat × Nat):Bool:=
 let A:=tN p
 let B:=tD p * 2 ^ (128+s - j)
 let p0:=c.1 * A / B
 let r0:=c.1 * A % B
 let p1:=(p0 * c.2+1) / c.1
 let r1:=p1 * B - c.2 * A
 let W:=18446744073709551616 * tD p / 2 ^ j+1
 let V:=(2 * 18446744073709551616 * tD p+2 ^ j - 1) / 2 ^ j
 decide (0<c.1) && decide (0<c.2) && decide (p1 * c.1=p0 * c.2+1) && decide (c.2 * A<=p1 * B) &&
   ((decide (r0=0) && decide (W<=r1) && decide (V<=r1)) || (decide (r1=0) && decide (W<=r0) && decide (V<=r0)) ||
     (decide (2 ^ (64 - j)<=c.1+c.2) && decide (W<=(L+c.1 - 1) / c.1 * r0) && decide (V<=(L+c.2 - 1) / c.2 * r1)))
def hiOk (p:Int):Bool:=decide (9223372036854775808<=hiT p) && decide (hiT p<18446744073709551616)
def allOk (f:Int->Nat × Nat->Bool):Nat->List (Nat × Nat)->Bool
 | _,[]=>true
 | i,c :: l=>f ((i:Int) - 348) c && allOk f (i+1) l
theorem allOk_at {f:Int->Nat × Nat->Bool}:∀{l:List (Nat × Nat)} {i:Nat},allOk f i l=true->∀n,n<l.length->∃c,f (((i+n:Nat):Int) - 348) c=true
 | [],_,_,n,hn=>by simp at hn
 | c :: l,i,h,n,hn=>by
   rw [allOk,Bool.and_eq_true] at h;cases n with
   | zero=>exact ⟨c,h.1⟩
   | succ n=>
     obtain ⟨d,hd⟩:=allOk_at h.2 n (by simpa using hn);refine ⟨d,?_⟩;rw [show i+(n+1)=i+1+n by omega];exact hd
theorem ceil_pos {L q:Nat} (hL:0<L) (hq:0<q):0<(L+q - 1) / q/\((L+q - 1) / q - 1) * q<L:=by
 have h1:0<(L+q - 1) / q:=Nat.div_pos (by omega) hq;refine ⟨h1,?_⟩;have h:=Nat.div_mul_le_self (L+q - 1) q;rw [Nat.sub_mul,Nat.one_mul];generalize (L+q - 1) / q * q=z at *;omega
theorem clear_of {s j L x:Nat} {p:Int} {c:Nat × Nat} (hok:okF s j L p c=true) (hL:0<L) (hx:L<=x) (hx2:x<2 ^ (64 - j)) (hj:j<=128+s) :
   Clear (2 ^ j * x * tN p) (tD p * (18446744073709551616 * 18446744073709551616) * 2 ^ s) (18446744073709551616 * tD p) (2 * 18446744073709551616 * tD p):=by
 have hE:tD p * (18446744073709551616 * 18446744073709551616) * 2 ^ s=2 ^ j * (tD p * 2 ^ (128+s - j)):=by
   rw [show (18446744073709551616 * 18446744073709551616:Nat)=2 ^ 128 by decide,Nat.mul_assoc,<-Nat.pow_add,Nat.mul_left_comm,<-Nat.pow_add];congr 2;omega
 rw [hE]
 unfold okF at hok
 have hDp:=E3 p
 have hBp:0<tD p * 2 ^ (128+s - j):=Nat.mul_pos hDp (Nat.two_pow_pos _)
 have hJ:=Nat.two_pow_pos j
 generalize tN p=A at *
 generalize tD p=D at *
 generalize hBe:D * 2 ^ (128+s - j)=B at *
 generalize 2 ^ j=J at *
 generalize hQ:2 ^ (64 - j)=Q at *
 obtain ⟨q0,q1⟩:=c
 dsimp only at hok
 have f0:=Nat.div_add_mod (q0 * A) B
 generalize q0 * A / B=p0 at *
 generalize q0 * A % B=r0 at *
 generalize (p0 * q1+1) / q0=p1 at *
 obtain ⟨r1,hr1⟩:∃r1,r1=p1 * B - q1 * A:=⟨_,rfl⟩
 rw [<-hr1] at hok
 have w0:=Nat.div_add_mod (18446744073709551616 * D) J
 have w1:=Nat.mod_lt (18446744073709551616 * D) hJ
 have v0:=Nat.div_add_mod (2 * 18446744073709551616 * D+J - 1) J
 have v1:=Nat.mod_lt (2 * 18446744073709551616 * D+J - 1) hJ
 generalize 18446744073709551616 * D / J=W at *
 generalize (2 * 18446744073709551616 * D+J - 1) / J=V at *
 generalize (2 * 18446744073709551616 * D+J - 1) % J=v9 at *
 generalize 18446744073709551616 * D % J=w9 at *
 simp only [Bool.and_eq_true,Bool.or_eq_true,decide_eq_true_eq] at hok
 obtain ⟨⟨⟨⟨c0,c1⟩,cd⟩,cu⟩,hcc⟩:=hok
 have hr1' : p1 * B=q1 * A+r1:=by
   generalize p1 * B=z at *;omega
 have i0:(q0:Int) * A - p0 * B=r0:=by
   have:((B * p0+r0:Nat):Int)=((q0 * A:Nat):Int):=by rw [f0]
   simp only [Int.natCast_add,Int.natCast_mul] at this;rw [Int.mul_comm (B:Int)] at this;omega
 have i1:(p1:Int) * B - q1 * A=r1:=by
   have:((p1 * B:Nat):Int)=((q1 * A+r1:Nat):Int):=by rw [hr1']
   simp only [Int.natCast_add,Int.natCast_mul] at this;omega
 have id:(p1:Int) * q0 - p0 * q1=1:=by
   have:((p1 * q0:Nat):Int)=((p0 * q1+1:Nat):Int):=by rw [cd]
   simp only [Int.natCast_add,Int.natCast_mul] at this;omega
 obtain ⟨k0,k1⟩:=ceil_pos hL c0
 obtain ⟨k2,k3⟩:=ceil_pos hL c1
 constructor
 · intro k hk
   have hk' : k * B<=x * A:=by
     refine Nat.le_of_mul_le_mul_left ?_ hJ;rw [<-Nat.mul_assoc,<-Nat.mul_assoc,Nat.mul_comm J k,Nat.mul_assoc];exact hk
   have:=far_lower (A:=A) (B:=B) (q0:=q0) (p0:=p0) (q1:=q1) (p1:=p1) (x:=x) (k:=k) (r0:=r0) (r1:=r1) (W:=(W+1:Nat)) (L:=L) (by omega) (by omega) (by omega) (by omega) (by omega) i0 i1 id (by omega) (by omega)
     (by have:((k * B:Nat):Int)<=((x * A:Nat):Int):=by omega
         simpa only [Int.natCast_mul] using this)
     (by
       rcases hcc with (⟨⟨h1,h2⟩,_⟩ | ⟨⟨h1,h2⟩,_⟩) | ⟨⟨h1,h2⟩,_⟩
       · exact .inl ⟨by omega,by omega⟩
       · exact .inr (.inl ⟨by omega,by omega⟩)
       · refine .inr (.inr ⟨by omega,(((L+q0 - 1) / q0:Nat):Int),by omega,?_,?_⟩)
         · have:((((L+q0 - 1) / q0 - 1) * q0:Nat):Int)<(L:Int):=by omega
           rw [Int.natCast_mul,Int.natCast_sub k0] at this;exact this
         · have:((W+1:Nat):Int)<=(((L+q0 - 1) / q0 * r0:Nat):Int):=by omega
           rw [Int.natCast_mul ((L+q0 - 1) / q0)] at this;exact this)
   rw [<-Int.natCast_mul,<-Int.natCast_mul] at this;have e1:J * x * A=J * (x * A):=Nat.mul_assoc _ _ _;have e2:k * (J * B)=J * (k * B):=Nat.mul_left_comm _ _ _;rw [e1,e2];rcases this with h | h
   · left
     have:x * A=k * B:=by omega
     rw [this]
   · right
     have h2:k * B+(W+1)<=x * A:=by omega
     have h3:J * (k * B+(W+1))<=J * (x * A):=Nat.mul_le_mul_left _ h2;rw [Nat.mul_add,Nat.mul_add,Nat.mul_one] at h3;omega
 · intro k hk
   have hk' : x * A<=k * B:=by
     refine Nat.le_of_mul_le_mul_left ?_ hJ;rw [<-Nat.mul_assoc,<-Nat.mul_assoc,Nat.mul_comm J k,Nat.mul_assoc k];exact hk
   have:=far_upper (A:=A) (B:=B) (q0:=q0) (p0:=p0) (q1:=q1) (p1:=p1) (x:=x) (k:=k) (r0:=r0) (r1:=r1) (W:=V) (L:=L) (by omega) (by omega) (by omega) (by omega) (by omega) i0 i1 id (by omega) (by omega)
     (by have:((x * A:Nat):Int)<=((k * B:Nat):Int):=by omega
         simpa only [Int.natCast_mul] using this)
     (by
       rcases hcc with (⟨⟨h1,_⟩,h2⟩ | ⟨⟨h1,_⟩,h2⟩) | ⟨⟨h1,_⟩,h2⟩
       · exact .inl ⟨by omega,by omega⟩
       · exact .inr (.inl ⟨by omega,by omega⟩)
       · refine .inr (.inr ⟨by omega,(((L+q1 - 1) / q1:Nat):Int),by omega,?_,?_⟩)
         · have:((((L+q1 - 1) / q1 - 1) * q1:Nat):Int)<(L:Int):=by omega
           rw [Int.natCast_mul,Int.natCast_sub k2] at this;exact this
         · have:(V:Int)<=(((L+q1 - 1) / q1 * r1:Nat):Int):=by omega
           rw [Int.natCast_mul ((L+q1 - 1) / q1)] at this;exact this)
   rw [<-Int.natCast_mul,<-Int.natCast_mul] at this;have e1:J * x * A=J * (x * A):=Nat.mul_assoc _ _ _;have e2:k * (J * B)=J * (k * B):=Nat.mul_left_comm _ _ _;rw [e1,e2];rcases this with h | h
   · left
     have:x * A=k * B:=by omega
     rw [this]
   · right
     have h2:x * A+V<=k * B:=by omega
     have h3:J * (x * A+V)<=J * (k * B):=Nat.mul_le_mul_left _ h2;rw [Nat.mul_add] at h3;omega
theorem certP_ok:allOk (okF 8 0 9223372036854775808) 0 certP=true:=by decide +kernel
theorem Fk:certP.length=696:=by decide +kernel
theorem hi_ok:allOk (fun p _=>hiOk p) 0 certP=true:=by decide +kernel
theorem at10 {f:Int->Nat × Nat->Bool} {l:List (Nat × Nat)} (h:allOk f 0 l=true) (hl:l.length=696) {p:Int} (h0:-348<=p) (h1:p<=347):∃c,f p c=true:=by
 obtain ⟨c,hc⟩:=allOk_at h (p+348).toNat (by omega);refine ⟨c,?_⟩;rw [show p=(((0+(p+348).toNat:Nat):Int) - 348) by omega];exact hc
theorem Clear.more {y E W V:Nat} (h:Clear y E W V) (n:Nat):Clear y (E * 2 ^ n) W V:=
 ⟨fun k hk=>by rw [Nat.mul_comm E,<-Nat.mul_assoc] at *;exact h.low _ hk,fun k hk=>by rw [Nat.mul_comm E,<-Nat.mul_assoc] at *;exact h.high _ hk⟩
theorem uscale_p {x s:Nat} {p:Int} (h0:-348<=p) (h1:p<=347) (hs:8<=s) (hx0:9223372036854775808<=x) (hx1:x<18446744073709551616) :
   C2 18446744073709551616 x (hiT p) (loT p) s=unr (x * tN p) (tD p * (18446744073709551616 * 18446744073709551616) * 2 ^ s):=by
 obtain ⟨_,hh⟩:=at10 hi_ok Fk h0 h1
 rw [hiOk,Bool.and_eq_true,decide_eq_true_eq,decide_eq_true_eq] at hh
 obtain ⟨c,hc⟩:=at10 certP_ok Fk h0 h1
 have h2:=clear_of hc (by decide) hx0 hx1 (by decide)
 rw [Nat.pow_zero,Nat.one_mul] at h2
 refine uscale_gen (by decide) (by omega) hx1 (by omega) hh.2 (lo_lt p) (E3 p) ?_ ?_ ?_
 · rw [pm_eq];exact pm_low p
 · rw [pm_eq];exact pm_up p
 · have h3:=h2.more (s - 8)
   rw [Nat.mul_assoc _ (2 ^ 8),<-Nat.pow_add,show 8+(s - 8)=s by omega] at h3;exact h3
end Go.Proofs.YtagkgfniihiinaaGreatDoor
