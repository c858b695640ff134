/- The fewest digits that are read back as a number: that looking for them, more and more, ends at the shortest ones (no program in sight). -/
import Derived.Test.YtagkgfniihiinaaGreatDoorJ58
import Derived.Test.YtagkgfniihiinaaGreatDoorJ38
import Derived.Test.YtagkgfniihiinaaGreatDoorJ39
namespace Go.Proofs.YtagkgfniihiinaaGreatDoor
def InS (V g : Nat) (ev : Prop) (a : Nat) : Prop:=(V < a + g \/ V = a + g /\ ev) /\ (a < V + g \/ a = V + g /\ ev)
structure Units (V g t F0 F1 : Nat) (ev : Prop) : Prop where
 hin : ∀ c,InS V g ev (c * t) ↔ F0 <= c /\ c <= F1
 w1 : t <= 2 * g
 w2 : 2 * g < 10 * t
 ne : F0 <= F1
 big : 12 <= F0
theorem Units.close {V g t F0 F1 : Nat} {ev : Prop} (h : Units V g t F0 F1 ev) : F1 < F0 + 10:=by
 have a0:=(h.hin F0).2 ⟨Nat.le_refl _,h.ne⟩;have a1:=(h.hin F1).2 ⟨h.ne,Nat.le_refl _⟩;have w2:=h.w2;unfold InS at a0 a1;have : F1 * t < (F0 + 10) * t:=by
   rw [Nat.add_mul];generalize F1 * t = x at *;generalize F0 * t = y at *;omega
 exact Nat.lt_of_mul_lt_mul_right this
theorem Units.ten {V g t F0 F1 m : Nat} {ev : Prop} (h : Units V g t F0 F1 ev) (h0 : F0 <= 10 * m) (h1 : 10 * m <= F1) : F0 <= F1 / 10 * 10 /\ m = F1 / 10:=by
 have:=h.close;omega
theorem Units.below {V g F0 F1 c a t q : Nat} {ev : Prop} (h : Units V g t F0 F1 ev) (ht : t = 10 ^ a * q) (hq : 0 < q) (hc : InS V g ev (c * q)) : (F0 - 1) * 10 ^ a <= c:=by
 have n0 : ¬ InS V g ev ((F0 - 1) * t):=fun x => by have:=((h.hin _).1 x).1; have:=h.big; omega
 have a0:=(h.hin F0).2 ⟨Nat.le_refl _,h.ne⟩;have hb:=h.big;have e1 : F0 * t = (F0 - 1) * t + t:=(Fk (by omega) t).symm;have key : (F0 - 1) * t <= c * q:=by
   unfold InS at n0 a0 hc;generalize (F0 - 1) * t = x at *;generalize F0 * t = y at *;generalize c * q = z at *;by_cases he : ev <;> simp only [he,and_true,and_false,or_false] at n0 a0 hc <;> omega
 rw [ht,<- Nat.mul_assoc] at key;exact Nat.le_of_mul_le_mul_right key hq
theorem Units.above {V g F0 F1 c a t q : Nat} {ev : Prop} (h : Units V g t F0 F1 ev) (ht : q = 10 ^ a * t) (hc : InS V g ev (c * q)) : F0 <= c * 10 ^ a /\ c * 10 ^ a <= F1:=by
 rw [ht,<- Nat.mul_assoc] at hc;exact (h.hin _).1 hc
theorem tens_div {s c i j : Nat} (hs : s % 10 ≠ 0) (h : s * 10 ^ i = c * 10 ^ j) : ∃ l,c = s * 10 ^ l /\ i = j + l:=by
 rcases Nat.lt_or_ge i j with h1 | h1
 · obtain ⟨d,rfl⟩ : ∃ d,j = i + (d + 1):=⟨j - i - 1,by omega⟩
   rw [Nat.pow_add,Nat.mul_comm (10 ^ i),<- Nat.mul_assoc] at h;have:=Nat.eq_of_mul_eq_mul_right (Nat.pow_pos (by decide)) h;rw [Nat.pow_succ,<- Nat.mul_assoc] at this;omega
 · obtain ⟨l,rfl⟩ : ∃ l,i = j + l:=⟨i - j,by omega⟩
   rw [Nat.pow_add,Nat.mul_comm (10 ^ j),<- Nat.mul_assoc] at h;exact ⟨l,(Nat.eq_of_mul_eq_mul_right (Nat.pow_pos (by decide)) h).symm,rfl⟩
structure Least (F0 F1 d0 s k n : Nat) : Prop where
 eq : d0 = s * 10 ^ k
 last : s % 10 ≠ 0
 low : 10 ^ (n - 1) <= s
 high : s < 10 ^ n
 pos : 1 <= n
theorem Least.ten {F0 F1 d0 s k n : Nat} (h : Least F0 F1 d0 s k n) : (10 : Nat) ^ n = 10 * 10 ^ (n - 1):=by
 have:=h.pos;obtain ⟨m,rfl⟩ : ∃ m,n = m + 1:=⟨n - 1,by omega⟩;rw [Nat.pow_succ,Nat.mul_comm]; simp
theorem least_min {V g F0 F1 d0 s k n c a t q : Nat} {ev : Prop} (h : Units V g t F0 F1 ev) (hl : Least F0 F1 d0 s k n) (hd : (F0 <= F1 / 10 * 10 /\ d0 = F1 / 10) \/ (¬ F0 <= F1 / 10 * 10 /\ F0 <= d0 /\ d0 <= F1))
   (hq : (t = 10 ^ a * q /\ 0 < q) \/ (1 <= a /\ q = 10 ^ a * t)) (hc : InS V g ev (c * q)) (hc0 : 0 < c) : 10 ^ (n - 1) <= c:=by
 rcases Nat.lt_or_ge c (10 ^ (n - 1)) with hlt | hge
 · exfalso
   have hcl:=h.close;have hs : s <= d0:=by rw [hl.eq]; exact Nat.le_mul_of_pos_right _ (Nat.pow_pos (by decide))
   have h1:=hl.low;have hb:=h.big;rcases hq with ⟨ht,hq⟩ | ⟨ha,ht⟩
   · have hbel:=h.below ht hq hc
     have hF : F0 - 1 <= c:=Nat.le_trans (Nat.le_mul_of_pos_right _ (Nat.pow_pos (by decide))) hbel;rcases hd with ⟨d1,d2⟩ | ⟨d1,d2,d3⟩
     · omega
     · have hn : n ≠ 1:=fun e => by subst e; simp at hlt; omega
       obtain ⟨m,hm⟩ : ∃ m,10 ^ (n - 1) = 10 * m:=by
         have:=hl.pos;obtain ⟨j,hj⟩ : ∃ j,n - 1 = j + 1:=⟨n - 2,by omega⟩;exact ⟨10 ^ j,by rw [hj,Nat.pow_succ,Nat.mul_comm]⟩
       exact d1 (h.ten (m:=m) (by omega) (by omega)).1
   · obtain ⟨u0,u1⟩:=h.above ht hc
     obtain ⟨b,rfl⟩ : ∃ b,a = b + 1:=⟨a - 1,by omega⟩;rw [Nat.pow_succ,<- Nat.mul_assoc,Nat.mul_comm _ 10] at u0 u1;obtain ⟨m0,m1⟩:=h.ten u0 u1;rcases hd with ⟨d1,d2⟩ | ⟨d1,_⟩
     · rw [<- m1,hl.eq] at d2
       obtain ⟨l,e,_⟩:=tens_div hl.last d2;have : s <= c:=by rw [e]; exact Nat.le_mul_of_pos_right _ (Nat.pow_pos (by decide))
       omega
     · exact d1 m0
 · exact hge
theorem near_uniq {V t c d : Nat} (ht : 0 < t) (c1 : 2 * V <= (2 * c + 1) * t) (c2 : 2 * c * t <= 2 * V + t) (c3 : 2 * V = (2 * c + 1) * t \/ 2 * c * t = 2 * V + t -> c % 2 = 0)
   (d1 : 2 * V <= (2 * d + 1) * t) (d2 : 2 * d * t <= 2 * V + t) (d3 : 2 * V = (2 * d + 1) * t \/ 2 * d * t = 2 * V + t -> d % 2 = 0) : c = d:=by
 have key : ∀ {c d : Nat},2 * V <= (2 * c + 1) * t -> 2 * d * t <= 2 * V + t -> (2 * V = (2 * c + 1) * t \/ 2 * c * t = 2 * V + t -> c % 2 = 0) -> (2 * V = (2 * d + 1) * t \/ 2 * d * t = 2 * V + t -> d % 2 = 0) -> d <= c:=by
   intro c d c1 d2 c3 d3;have e1 : (2 * c + 1) * t = 2 * c * t + t:=by rw [Nat.add_mul,Nat.one_mul]
   have e2 : (2 * c + 2) * t = 2 * c * t + 2 * t:=by rw [Nat.add_mul]
   have h1 : 2 * d * t <= (2 * c + 2) * t:=by omega
   have h2:=Nat.le_of_mul_le_mul_right h1 ht;by_cases he : d = c + 1
   · subst he
     have e3 : 2 * (c + 1) * t = 2 * c * t + 2 * t:=by rw [show 2 * (c + 1) = 2 * c + 2 by omega]; exact e2
     have x1:=c3 (.inl (by omega));have x2:=d3 (.inr (by omega));omega
   · omega
 have a:=key c1 d2 c3 d3
 have b:=key d1 c2 d3 c3
 omega
theorem near_inS {V g n d s t tm tj a : Nat} {ev : Prop} (hg : 0 < g) (hn : 1 <= n) (hf : Fix n d V t tm) (hs : s < 10 ^ n) (hin : InS V g ev (s * tj)) (htm : t = 10 * tm) (hj : tj = 10 ^ a * t \/ (tm = 10 ^ a * tj)) : InS V g ev (d * t):=by
 obtain ⟨f1,f2,f3,f4,_,f6⟩:=hf;have e1 : (2 * d + 1) * t = 2 * (d * t) + t:=by rw [Nat.add_mul,Nat.one_mul,Nat.mul_assoc]
 have e2 : 2 * d * t = 2 * (d * t):=Nat.mul_assoc _ _ _;rw [e1] at f3;rw [e2] at f4;rcases hj with hj | hj
 · rw [hj,<- Nat.mul_assoc] at hin
   generalize s * 10 ^ a = m at *;rcases Nat.lt_trichotomy m d with h1 | h1 | h1
   · have : (m + 1) * t <= d * t:=Nat.mul_le_mul_right _ h1
     rw [Nat.add_mul,Nat.one_mul] at this;unfold InS at hin ⊢;generalize m * t = x at *;generalize d * t = y at *;by_cases he : ev <;> simp only [he,and_true,and_false,or_false] at hin ⊢ <;> omega
   · rw [<- h1]; exact hin
   · have : (d + 1) * t <= m * t:=Nat.mul_le_mul_right _ h1
     rw [Nat.add_mul,Nat.one_mul] at this;unfold InS at hin ⊢;generalize m * t = x at *;generalize d * t = y at *;by_cases he : ev <;> simp only [he,and_true,and_false,or_false] at hin ⊢ <;> omega
 · have hP : (10 : Nat) ^ n = 10 * 10 ^ (n - 1):=by
     obtain ⟨m,rfl⟩ : ∃ m,n = m + 1:=⟨n - 1,by omega⟩;rw [Nat.pow_succ,Nat.mul_comm]; simp
   have hS : s * tj <= s * tm:=Nat.mul_le_mul_left _ (by rw [hj]; exact Nat.le_mul_of_pos_left _ (Nat.pow_pos (by decide)));have hPp : 0 < (10 : Nat) ^ (n - 1):=Nat.pow_pos (by decide);rw [hP] at hs f6;generalize (10 : Nat) ^ (n - 1) = P at *;have hS2 : (s + 1) * tm <= 10 * P * tm:=Nat.mul_le_mul_right _ hs;rw [Nat.add_mul,Nat.one_mul] at hS2;have f6':=Fk (show 0 < 2 * (10 * P) by omega) tm;have e3 : 2 * (10 * P) * tm = 2 * (10 * P * tm):=Nat.mul_assoc _ _ _;have hD : d * t = P * t + (d - P) * t:=by rw [<- Nat.add_mul]; congr 1; omega
   have e4 : P * t = 10 * P * tm:=by rw [htm,Nat.mul_comm 10 P,Nat.mul_assoc]
   have hd : d - P = 0 \/ t <= (d - P) * t:=by
     rcases Nat.eq_zero_or_pos (d - P) with h | h
     · exact .inl h
     · exact .inr (Nat.le_mul_of_pos_left _ h)
   unfold InS at hin ⊢;rcases hd with h | h
   · rw [h,Nat.zero_mul] at hD
     generalize (2 * (10 * P) - 1) * tm = w at *;generalize 2 * (10 * P) * tm = w2 at *;generalize 10 * P * tm = w3 at *;generalize P * t = w4 at *;generalize s * tm = w5 at *;generalize s * tj = x at *;generalize d * t = y at *;by_cases he : ev <;> simp only [he,and_true,and_false,or_false] at hin ⊢ <;> omega
   · generalize (d - P) * t = w6 at *
     generalize (2 * (10 * P) - 1) * tm = w at *;generalize 2 * (10 * P) * tm = w2 at *;generalize 10 * P * tm = w3 at *;generalize P * t = w4 at *;generalize s * tm = w5 at *;generalize s * tj = x at *;generalize d * t = y at *;by_cases he : ev <;> simp only [he,and_true,and_false,or_false] at hin ⊢ <;> omega
theorem InS.between {V g x y z : Nat} {ev : Prop} (hx : InS V g ev x) (hz : InS V g ev z) (h1 : x <= y) (h2 : y <= z) : InS V g ev y:=by
 unfold InS at *;by_cases he : ev <;> simp only [he,and_true,and_false,or_false] at * <;> omega
theorem least_hit {V g F0 F1 d0 s k n d a t q tm : Nat} {ev : Prop} (h : Units V g t F0 F1 ev) (hl : Least F0 F1 d0 s k n) (hf : Fix n d V q tm) (hq0 : 0 < q) (hin : InS V g ev (d * q))
   (hd : (F0 <= F1 / 10 * 10 /\ d0 = F1 / 10) \/ (¬ F0 <= F1 / 10 * 10 /\ F0 <= d0 /\ d0 <= F1 /\ (F0 = F1 \/ (2 * V <= (2 * d0 + 1) * t /\ 2 * d0 * t <= 2 * V + t /\ (2 * V = (2 * d0 + 1) * t \/ 2 * d0 * t = 2 * V + t -> d0 % 2 = 0)))))
   (hq : t = 10 ^ a * q \/ (1 <= a /\ q = 10 ^ a * t)) : d = s /\ ((F0 <= F1 / 10 * 10 /\ 1 <= a /\ q = 10 ^ a * t /\ a = k + 1) \/ (¬ F0 <= F1 / 10 * 10 /\ t = 10 ^ a * q /\ a = 0 /\ k = 0)):=by
 have hcl:=h.close
 have hb:=h.big
 have hP:=hl.ten
 have hs : s <= d0:=by rw [hl.eq]; exact Nat.le_mul_of_pos_right _ (Nat.pow_pos (by decide))
 have hsl:=hl.low
 have hdh:=hf.high
 have hdl:=hf.low
 rcases hq with ht | ⟨ha,ht⟩
 · have hbel:=h.below ht hq0 hin
   have hF : F0 - 1 <= d:=Nat.le_trans (Nat.le_mul_of_pos_right _ (Nat.pow_pos (by decide))) hbel;rcases hd with ⟨d1,d2⟩ | ⟨d1,d2,d3,d4⟩
   · exfalso
     rw [hP] at hdh;obtain ⟨_,m1⟩:=h.ten (m:=10 ^ (n - 1)) (by omega) (by omega);rw [<- m1] at d2;have e2 : s = 10 ^ (n - 1):=by omega
     have hl9:=hl.last;rcases Nat.eq_zero_or_pos (n - 1) with h0 | h0
     · rw [h0] at e2 m1; simp at m1; omega
     · obtain ⟨j,hj⟩ : ∃ j,n - 1 = j + 1:=⟨n - 2,by omega⟩
       rw [e2,hj,Nat.pow_succ] at hl9;omega
   · have hk : k = 0:=by
       rcases Nat.eq_zero_or_pos k with h0 | h0
       · exact h0
       · obtain ⟨j,rfl⟩ : ∃ j,k = j + 1:=⟨k - 1,by omega⟩
         have e:=hl.eq;rw [Nat.pow_succ,<- Nat.mul_assoc] at e;exact absurd (h.ten (m:=s * 10 ^ j) (by omega) (by omega)).1 d1
     subst hk;have e:=hl.eq;rw [Nat.pow_zero,Nat.mul_one] at e;rcases Nat.eq_zero_or_pos a with h0 | h0
     · subst h0
       refine ⟨?_,.inr ⟨d1,ht,rfl,rfl⟩⟩;rw [Nat.pow_zero,Nat.one_mul] at ht;subst ht;obtain ⟨u0,u1⟩:=(h.hin d).1 hin;rcases d4 with d4 | ⟨d4,d5,d6⟩
       · omega
       · rw [<- e]
         exact near_uniq hq0 hf.near1 hf.near2 hf.even d4 d5 d6
     · exfalso
       have i0:=(h.hin d0).2 ⟨d2,d3⟩;obtain ⟨j,rfl⟩ : ∃ j,a = j + 1:=⟨a - 1,by omega⟩;have i1 : d * q <= 10 ^ (n - 1) * t:=by
         rw [ht,Nat.pow_succ,Nat.mul_comm (10 ^ j),Nat.mul_assoc 10,<- Nat.mul_assoc (10 ^ (n - 1)),Nat.mul_comm (10 ^ (n - 1)) 10,<- hP];exact Nat.mul_le_mul (Nat.le_of_lt hdh) (Nat.le_mul_of_pos_left _ (Nat.pow_pos (by decide)))
       have i2 : 10 ^ (n - 1) * t <= d0 * t:=Nat.mul_le_mul_right _ (by omega);obtain ⟨u0,u1⟩:=(h.hin _).1 (hin.between i0 i1 i2);rcases Nat.eq_zero_or_pos (n - 1) with h0 | h0
       · rw [h0] at u0; simp at u0; omega
       · obtain ⟨i,hi⟩ : ∃ i,n - 1 = i + 1:=⟨n - 2,by omega⟩
         rw [hi,Nat.pow_succ,Nat.mul_comm] at u0 u1;exact d1 (h.ten u0 u1).1
 · obtain ⟨u0,u1⟩:=h.above ht hin
   obtain ⟨b,rfl⟩ : ∃ b,a = b + 1:=⟨a - 1,by omega⟩;rw [Nat.pow_succ,<- Nat.mul_assoc,Nat.mul_comm _ 10] at u0 u1;obtain ⟨m0,m1⟩:=h.ten u0 u1;rcases hd with ⟨d1,d2⟩ | ⟨d1,_⟩
   · rw [<- m1,hl.eq] at d2
     obtain ⟨l,e,e2⟩:=tens_div hl.last d2;have hl0 : l = 0:=by
       rcases Nat.eq_zero_or_pos l with h0 | h0
       · exact h0
       · obtain ⟨j,rfl⟩ : ∃ j,l = j + 1:=⟨l - 1,by omega⟩
         have : s * 10 <= d:=by
           rw [e,Nat.pow_succ,<- Nat.mul_assoc];exact Nat.mul_le_mul_right _ (Nat.le_mul_of_pos_right _ (Nat.pow_pos (by decide)))
         omega
     subst hl0;rw [Nat.pow_zero,Nat.mul_one] at e;exact ⟨e,.inl ⟨d1,ha,ht,by omega⟩⟩
   · exact absurd m0 d1
def gT (r : Nat) : Nat:=2 ^ rK r * 10 ^ tK
theorem inS_iff {r : Nat} (h : 0 < r) (hs : Bv r = false) (a : Nat) : InS (vT r) (gT r) (r % 2 = 0) a ↔ InI r a (10 ^ tK):=by
 have hM:=Gi h;have e1 : mid r * 10 ^ tK = vT r + gT r:=by
   rw [mid_high,vT,gT,Ct];generalize 2 ^ rK r = b;generalize 10 ^ tK = c;rw [Nat.add_mul,Nat.add_mul,Nat.one_mul];simp only [Nat.mul_assoc]
 have e0 : mid (r - 1) * 10 ^ tK + gT r = vT r:=by
   rw [mid_low h hs,vT,gT,Ct];generalize 2 ^ rK r = b;generalize 10 ^ tK = c;rw [<- Nat.mul_assoc 2,<- Nat.add_mul];congr 1;rw [show (2 * rM r - 1) * b + b = (2 * rM r - 1 + 1) * b by rw [Nat.add_mul,Nat.one_mul]];congr 1; omega
 rw [show InI r a (10 ^ tK) ↔ (r = 0 \/ mid (r - 1) * 10 ^ tK < a \/ (mid (r - 1) * 10 ^ tK = a /\ r % 2 = 0)) /\ (a < mid r * 10 ^ tK \/ (a = mid r * 10 ^ tK /\ r % 2 = 0)) from ⟨fun h => ⟨h.low,h.high⟩,fun h => ⟨h.1,h.2⟩⟩];rw [e1];unfold InS;generalize mid (r - 1) * 10 ^ tK = m at *;generalize gT r = g at *;generalize vT r = v at *;constructor
 · intro ⟨a1,a2⟩
   exact ⟨by omega,a2⟩
 · intro ⟨a1,a2⟩
   exact ⟨by omega,a2⟩
theorem units_of {r : Nat} (h12 : 13 <= r) (hr : r < 9218868437227405312) (hs : Bv r = false) : Units (vT r) (gT r) (tT (-fP r)) (fMin r) (fMax r) (r % 2 = 0):=by
 have h : 0 < r:=by omega
 obtain ⟨p0,p1,p2,p3⟩:=Cy h hr;obtain ⟨s0,s1,s2,_,_⟩:=B0 h;obtain ⟨w0,w1⟩:=w_spec h hr hs;obtain ⟨n0,n1⟩:=near_in h hr hs;have hk:=tK_is;have hin : ∀ c,InS (vT r) (gT r) (r % 2 = 0) (c * tT (-fP r)) ↔ fMin r <= c /\ c <= fMax r:=fun c => by
   rw [inS_iff h hs,<- dec_T (by omega),Fx h hr]
 obtain ⟨sc,hsc⟩ : ∃ n : Nat,fSc r = n:=⟨(fSc r).toNat,by omega⟩;rw [hsc,Int.toNat_natCast] at w0 w1;have hR:=rel_T (x:=2 ^ fS r) (μ:=2 * 2 ^ rK r) (k:=rK r) (s:=fS r) (sc:=sc) (p:=fP r) (by omega) (by omega) (by omega) (by
   rw [show fS r = fS r - 1 + 1 by omega,Nat.pow_succ,show fS r - 1 + 1 - 1 = fS r - 1 by omega];generalize 2 ^ (fS r - 1) = a;generalize 2 ^ rK r = b;rw [Nat.mul_comm 2 b,Nat.mul_comm (a * 2),Nat.mul_assoc,Nat.mul_comm 2 a]) (by rw [<- hsc]; rfl)
 have eg : 2 * 2 ^ rK r * 10 ^ tK = 2 * gT r:=by unfold gT; rw [Nat.mul_assoc]
 rw [eg] at hR;have hE : 0 < tD (fP r) * (18446744073709551616 * 18446744073709551616) * 2 ^ sc:=Nat.mul_pos (Nat.mul_pos (Cz _) (by decide)) (Nat.two_pow_pos sc);have hT:=E6 (-fP r);generalize tD (fP r) * (18446744073709551616 * 18446744073709551616) * 2 ^ sc = E at *;generalize 2 ^ fS r * tN (fP r) = y at *;have hw1 : tT (-fP r) <= 2 * gT r:=by
   have h1 : 4 * E * tT (-fP r) <= 4 * E * (2 * gT r):=by rw [<- hR]; exact Nat.mul_le_mul_right _ w0
   exact Nat.le_of_mul_le_mul_left h1 (by omega)
 have hw2 : 2 * gT r < 10 * tT (-fP r):=by
   have h1 : 4 * E * (2 * gT r) < 4 * E * (10 * tT (-fP r)):=by
     rw [<- hR,show 4 * E * (10 * tT (-fP r)) = 40 * E * tT (-fP r) by rw [<- Nat.mul_assoc,Nat.mul_right_comm 4 E 10]];exact Nat.mul_lt_mul_of_pos_right w1 hT
   exact Nat.lt_of_mul_lt_mul_left h1
 refine ⟨hin,hw1,hw2,Nat.le_trans n0 n1,?_⟩;have hM : 12 <= rM r:=by have:=Bm r; omega
 have a0:=((hin (fMin r)).2 ⟨Nat.le_refl _,Nat.le_trans n0 n1⟩).1;have hg : 0 < gT r:=Nat.mul_pos (Nat.two_pow_pos _) (Nat.pow_pos (by decide));have hV : vT r = 2 * rM r * gT r:=by unfold vT gT; rw [Ct]; simp only [Nat.mul_assoc]
 have h1 : vT r <= fMin r * tT (-fP r) + gT r:=by rcases a0 with a | a <;> omega
 have h2 : fMin r * tT (-fP r) <= fMin r * (2 * gT r):=Nat.mul_le_mul_left _ hw1;rw [hV] at h1;have h3 : 2 * rM r * gT r <= (2 * fMin r + 1) * gT r:=by
   rw [Nat.add_mul,Nat.one_mul,Nat.mul_assoc 2 (fMin r),Nat.mul_left_comm 2]; omega
 have h4:=Nat.le_of_mul_le_mul_right h3 hg;omega
def C9 (r d : Nat) (q : Int) : Bool:=
 (decide (r = 0) || decide (mid (r - 1) * 10 ^ tK < d * tT q) || (decide (mid (r - 1) * 10 ^ tK = d * tT q) && decide (r % 2 = 0))) &&
 (decide (d * tT q < mid r * 10 ^ tK) || (decide (d * tT q = mid r * 10 ^ tK) && decide (r % 2 = 0)))
theorem Fa {r d : Nat} {q : Int} : C9 r d q = true ↔ InI r (d * tT q) (10 ^ tK):=by
 unfold C9;simp only [Bool.and_eq_true,Bool.or_eq_true,decide_eq_true_eq];constructor
 · intro ⟨h1,h2⟩
   exact ⟨by rcases h1 with (h | h) | h; exact .inl h; exact .inr (.inl h); exact .inr (.inr h),h2⟩
 · intro ⟨h1,h2⟩
   exact ⟨by rcases h1 with h | h | h; exact .inl (.inl h); exact .inl (.inr h); exact .inr h,h2⟩
def Aj (n d : Nat) (q : Int) (up : Bool) : Nat × Int:=
 if up then (if d + 1 = 10 ^ n then (10 ^ (n - 1),q + 1) else (d + 1,q))
 else if d = 10 ^ (n - 1) then (10 ^ n - 1,q - 1) else (d - 1,q)
def Bo (r : Nat) : Nat -> Nat -> Nat × Nat × Int
 | 0,n => (n,0,0)
 | fuel + 1,n =>
   if C9 r (fixN r n).1 (fixN r n).2 then (n,fixN r n)
   else if C9 r (Aj n (fixN r n).1 (fixN r n).2 (decide ((fixN r n).1 * tT (fixN r n).2 < vT r))).1 (Aj n (fixN r n).1 (fixN r n).2 (decide ((fixN r n).1 * tT (fixN r n).2 < vT r))).2 then
     (n,Aj n (fixN r n).1 (fixN r n).2 (decide ((fixN r n).1 * tT (fixN r n).2 < vT r)))
   else Bo r fuel (n + 1)
def endsB (r : Nat) : Bool:=
 decide ((Ai r).1 = (Bo r 17 1).2.1 * 10 ^ ((Bo r 17 1).2.2 - (Ai r).2).toNat) && decide ((Ai r).2 <= (Bo r 17 1).2.2) &&
 decide ((Bo r 17 1).2.1 % 10 ≠ 0) && decide (10 ^ ((Bo r 17 1).1 - 1) <= (Bo r 17 1).2.1) && decide ((Bo r 17 1).2.1 < 10 ^ (Bo r 17 1).1) && decide (1 <= (Bo r 17 1).1)
theorem ends_few : allN 1000 (fun i => decide (i = 0) || endsB i) = true:=by decide +kernel
theorem ends_skew : allN 2046 (fun i => decide (i = 0) || endsB ((i + 1) * 4503599627370496)) = true:=by decide +kernel
theorem Dc {p q : Int} (p0 : -400 <= p) (q0 : -400 <= q) : (∃ a : Nat,tT p = 10 ^ a * tT q /\ p - q = (a : Int)) \/ ∃ a : Nat,1 <= a /\ tT q = 10 ^ a * tT p /\ q - p = (a : Int):=by
 rcases Int.lt_or_le p q with h | h
 · obtain ⟨a,rfl⟩ : ∃ a : Nat,q = p + a:=⟨(q - p).toNat,by omega⟩
   exact .inr ⟨a,by omega,tT_add p0 a,by omega⟩
 · obtain ⟨a,rfl⟩ : ∃ a : Nat,p = q + a:=⟨(p - q).toNat,by omega⟩
   exact .inl ⟨a,tT_add q0 a,by omega⟩
theorem short_d0 {r : Nat} (h : 0 < r) (hr : r < 9218868437227405312) (hs : Bv r = false) :
   (fMin r <= fMax r / 10 * 10 /\ (Ai r).1 = fMax r / 10 /\ (Ai r).2 = 1 - fP r) \/ (¬ fMin r <= fMax r / 10 * 10 /\ fMin r <= (Ai r).1 /\ (Ai r).1 <= fMax r /\ (Ai r).2 = -fP r):=by
 obtain ⟨n0,n1⟩:=near_in h hr hs
 unfold Ai
 by_cases h1 : fMin r <= fMax r / 10 * 10
 · rw [if_pos h1]; exact .inl ⟨h1,rfl,rfl⟩
 · rw [if_neg h1]
   by_cases h2 : fMin r < fMax r
   · rw [if_pos h2]; exact .inr ⟨h1,n0,n1,rfl⟩
   · rw [if_neg h2]; exact .inr ⟨h1,Nat.le_refl _,Nat.le_trans n0 n1,rfl⟩
theorem few_no {r s k N d : Nat} {q : Int} (h13 : 13 <= r) (hr : r < 9218868437227405312) (hs : Bv r = false) (hl : Least (fMin r) (fMax r) (Ai r).1 s k N) (hq : -400 <= q) (hd0 : 0 < d) (hrd : C9 r d q = true) : 10 ^ (N - 1) <= d:=by
 have h : 0 < r:=by omega
 have hU:=units_of h13 hr hs;have hps:=Cy h hr;have hin : InS (vT r) (gT r) (r % 2 = 0) (d * tT q):=(inS_iff h hs _).2 (Fa.1 hrd);have hd : (fMin r <= fMax r / 10 * 10 /\ (Ai r).1 = fMax r / 10) \/ (¬ fMin r <= fMax r / 10 * 10 /\ fMin r <= (Ai r).1 /\ (Ai r).1 <= fMax r):=by
   rcases short_d0 h hr hs with ⟨a,b,_⟩ | ⟨a,b,c,_⟩
   · exact .inl ⟨a,b⟩
   · exact .inr ⟨a,b,c⟩
 rcases Dc (p:=-fP r) (q:=q) (by omega) hq with ⟨a,e,_⟩ | ⟨a,ha,e,_⟩
 · exact least_min (a:=a) hU hl hd (.inl ⟨e,E6 _⟩) hin hd0
 · exact least_min (a:=a) hU hl hd (.inr ⟨ha,e⟩) hin hd0
theorem d0_near {r : Nat} (h : 0 < r) (hr : r < 9218868437227405312) : 2 * vT r <= (2 * rndU (usc r (xM r)) + 1) * tT (-fP r) /\ 2 * rndU (usc r (xM r)) * tT (-fP r) <= 2 * vT r + tT (-fP r) /\
   (2 * vT r = (2 * rndU (usc r (xM r)) + 1) * tT (-fP r) \/ 2 * rndU (usc r (xM r)) * tT (-fP r) = 2 * vT r + tT (-fP r) -> rndU (usc r (xM r)) % 2 = 0):=by
 obtain ⟨_,⟨m0,m1,m9⟩,_⟩:=Gf h
 obtain ⟨s0,s1,s2,_,_⟩:=B0 h
 obtain ⟨p0,p1,p2,p3⟩:=Cy h hr
 rw [Gj h hr m0 m1 m9]
 obtain ⟨sc,hsc⟩ : ∃ n : Nat,fSc r = n:=⟨(fSc r).toNat,by omega⟩
 rw [hsc,Int.toNat_natCast]
 have hR:=rel_T (x:=xM r) (μ:=2 * rv r) (k:=rK r) (s:=fS r) (sc:=sc) (p:=fP r) (by omega) (by omega) (by omega) (by
   rw [Ct,xM,show fS r = fS r - 1 + 1 by omega,Nat.pow_succ,show fS r - 1 + 1 - 1 = fS r - 1 by omega];simp only [Nat.mul_assoc,Nat.mul_left_comm,Nat.mul_comm]) (by rw [<- hsc]; rfl)
 exact rnd_near (Nat.mul_pos (Nat.mul_pos (Cz _) (by decide)) (Nat.two_pow_pos sc)) (E6 _) hR
theorem many17 {r : Nat} (h : 0 < r) (hr : r < 9218868437227405312) (hs : Bv r = false) : InS (vT r) (gT r) (r % 2 = 0) ((fixN r 17).1 * tT (fixN r 17).2):=by
 obtain ⟨⟨f1,f2,f3,f4,_,f6⟩,q0,q1⟩:=Ez h hr (n:=17) (by decide) (by decide);have hM:=(Bm r).2.2;have hV : vT r = 2 * (rM r * gT r):=by unfold vT gT; rw [Ct]; simp only [Nat.mul_assoc]
 have hg : 0 < gT r:=Nat.mul_pos (Nat.two_pow_pos _) (Nat.pow_pos (by decide));generalize (fixN r 17).1 = d at *;generalize tT ((fixN r 17).2 - 1) = tm at *;have ht:=E6 (fixN r 17).2;generalize tT (fixN r 17).2 = t at *;clear f6;have e1 : (2 * d + 1) * t = 2 * (d * t) + t:=by rw [Nat.add_mul,Nat.one_mul,Nat.mul_assoc]
 have e2 : 2 * d * t = 2 * (d * t):=Nat.mul_assoc _ _ _;rw [e1] at f3;rw [e2] at f4;have f1' : 10000000000000000 <= d:=f1;have h1 : 10000000000000000 * t <= d * t:=Nat.mul_le_mul_right _ f1';have h2 : rM r * gT r <= 9007199254740991 * gT r:=Nat.mul_le_mul_right _ (by omega);generalize rM r * gT r = a at *;generalize d * t = x at *;generalize gT r = g at *;generalize vT r = v at *;unfold InS;constructor <;> left <;> omega
theorem least_of {r : Nat} (h13 : 13 <= r) (hr : r < 9218868437227405312) (hs : Bv r = false) :
   ∃ s k N,Least (fMin r) (fMax r) (Ai r).1 s k N:=by
 have h : 0 < r:=by omega
 have hU:=units_of h13 hr hs
 have hb:=hU.big
 have hpos : 0 < (Ai r).1:=by
   rcases short_d0 h hr hs with ⟨a,b,_⟩ | ⟨a,b,c,_⟩
   · rw [b]; omega
   · omega
 obtain ⟨s,k,e,l⟩ : ∃ s k : Nat,(Ai r).1 = s * 10 ^ k /\ s % 10 ≠ 0:=by
   generalize (Ai r).1 = d at hpos;clear hb hU;induction d using Nat.strongRecOn with
   | _ d ih =>
     by_cases h9 : d % 10 = 0
     · obtain ⟨s,k,e,l⟩:=ih (d / 10) (by omega) (by omega)
       exact ⟨s,k + 1,by rw [Nat.pow_succ,<- Nat.mul_assoc,<- e]; omega,l⟩
     · exact ⟨d,0,by simp,h9⟩
 obtain ⟨N,hN⟩ : ∃ N : Nat,10 ^ N <= s /\ s < 10 ^ (N + 1):=by
   have hs0 : 0 < s:=by omega
   clear e l;induction s using Nat.strongRecOn with
   | _ s ih =>
     by_cases h9 : s < 10
     · exact ⟨0,by simp; omega,by simpa using h9⟩
     · obtain ⟨N,a,b⟩:=ih (s / 10) (by omega) (by omega)
       refine ⟨N + 1,?_,?_⟩
       · rw [Nat.pow_succ]; omega
       · rw [Nat.pow_succ]; omega
 exact ⟨s,k,N + 1,e,l,hN.1,hN.2,by omega⟩
theorem tT_pred {q : Int} (h : -399 <= q) : tT q = 10 * tT (q - 1):=by
 have:=tT_succ (q:=q - 1) (by omega);rwa [show q - 1 + 1 = q by omega] at this
theorem ten_gap {a x y : Nat} (ha : 1 <= a) (hy : 0 < y) (e : x = 10 ^ a * y) : y < x:=by
 have h10 : 1 < 10 ^ a:=Nat.one_lt_pow (by omega) (by decide);rw [e]; exact (Nat.lt_mul_iff_one_lt_left hy).2 h10
theorem ten_down {b x y z : Nat} (e : x = 10 ^ (b + 1) * y) (hx : x = 10 * z) : z = 10 ^ b * y:=by
 rw [hx,Nat.pow_succ,Nat.mul_comm (10 ^ b) 10,Nat.mul_assoc] at e;exact Nat.eq_of_mul_eq_mul_left (by decide) e
theorem hit_core {V g F0 F1 s k N : Nat} {ev : Prop} {P : Int} {S X : Nat × Int} (hU : Units V g (tT P) F0 F1 ev) (hl : Least F0 F1 S.1 s k N) (hg : 0 < g) (hP : -350 <= P)
   (hf : Fix N X.1 V (tT X.2) (tT (X.2 - 1))) (q0 : -380 <= X.2) (hin0 : InS V g ev (S.1 * tT S.2))
   (hd : (F0 <= F1 / 10 * 10 /\ S.1 = F1 / 10 /\ S.2 = P + 1) \/ (¬ F0 <= F1 / 10 * 10 /\ F0 <= S.1 /\ S.1 <= F1 /\ S.2 = P /\ (F0 = F1 \/ (2 * V <= (2 * S.1 + 1) * tT P /\ 2 * S.1 * tT P <= 2 * V + tT P /\ (2 * V = (2 * S.1 + 1) * tT P \/ 2 * S.1 * tT P = 2 * V + tT P -> S.1 % 2 = 0))))) :
   InS V g ev (X.1 * tT X.2) /\ X.1 = s /\ X.2 = S.2 + k:=by
 obtain ⟨S1,S2⟩:=S
 obtain ⟨X1,X2⟩:=X
 dsimp only at *
 have hp0 : -400 <= S2:=by rcases hd with ⟨_,_,c⟩ | ⟨_,_,_,c,_⟩ <;> omega
 have hin1 : InS V g ev (s * tT (S2 + k)):=by
   rw [tT_add hp0 k,<- Nat.mul_assoc,<- hl.eq]; exact hin0
 have htm : tT X2 = 10 * tT (X2 - 1):=tT_pred (by omega)
 have hin : InS V g ev (X1 * tT X2):=by
   rcases Dc (p:=S2 + k) (q:=X2) (by omega) (by omega) with ⟨a,e,_⟩ | ⟨a,ha,e,_⟩
   · exact near_inS (a:=a) hg hl.pos hf hl.high hin1 htm (.inl e)
   · obtain ⟨b,rfl⟩ : ∃ b,a = b + 1:=⟨a - 1,by omega⟩
     exact near_inS (a:=b) hg hl.pos hf hl.high hin1 htm (.inr (ten_down e htm))
 have hd2 : (F0 <= F1 / 10 * 10 /\ S1 = F1 / 10) \/ (¬ F0 <= F1 / 10 * 10 /\ F0 <= S1 /\ S1 <= F1 /\ (F0 = F1 \/ (2 * V <= (2 * S1 + 1) * tT P /\ 2 * S1 * tT P <= 2 * V + tT P /\ (2 * V = (2 * S1 + 1) * tT P \/ 2 * S1 * tT P = 2 * V + tT P -> S1 % 2 = 0)))):=by
   rcases hd with ⟨a,b,_⟩ | ⟨a,b,c,_,d⟩
   · exact .inl ⟨a,b⟩
   · exact .inr ⟨a,b,c,d⟩
 refine ⟨hin,?_⟩
 have hq0:=E6 X2
 rcases Dc (p:=P) (q:=X2) (by omega) (by omega) with ⟨a,e,ea⟩ | ⟨a,ha,e,ea⟩
 · obtain ⟨e1,h2⟩:=least_hit (a:=a) hU hl hf hq0 hin hd2 (.inl e)
   refine ⟨e1,?_⟩;rcases h2 with ⟨_,ha,e2,_⟩ | ⟨hA,_,ha,hk⟩
   · exfalso
     exact Nat.lt_asymm (ten_gap ha (E6 P) e2) (ten_gap ha hq0 e)
   · rcases hd with ⟨hA',_⟩ | ⟨_,_,_,c,_⟩
     · exact absurd hA' hA
     · omega
 · obtain ⟨e1,h2⟩:=least_hit (a:=a) hU hl hf hq0 hin hd2 (.inr ⟨ha,e⟩)
   refine ⟨e1,?_⟩;rcases h2 with ⟨hA,_,_,hk⟩ | ⟨_,_,h0,_⟩
   · rcases hd with ⟨_,_,c⟩ | ⟨hA',_⟩
     · omega
     · exact absurd hA hA'
   · omega
theorem short_way {r : Nat} (h : 0 < r) (hr : r < 9218868437227405312) (hs : Bv r = false) :
   (fMin r <= fMax r / 10 * 10 /\ (Ai r).1 = fMax r / 10 /\ (Ai r).2 = -fP r + 1) \/ (¬ fMin r <= fMax r / 10 * 10 /\ fMin r <= (Ai r).1 /\ (Ai r).1 <= fMax r /\ (Ai r).2 = -fP r /\ (fMin r = fMax r \/ (2 * vT r <= (2 * (Ai r).1 + 1) * tT (-fP r) /\ 2 * (Ai r).1 * tT (-fP r) <= 2 * vT r + tT (-fP r) /\
     (2 * vT r = (2 * (Ai r).1 + 1) * tT (-fP r) \/ 2 * (Ai r).1 * tT (-fP r) = 2 * vT r + tT (-fP r) -> (Ai r).1 % 2 = 0)))):=by
 obtain ⟨n0,n1⟩:=near_in h hr hs
 have hn:=d0_near h hr
 unfold Ai
 by_cases h1 : fMin r <= fMax r / 10 * 10
 · rw [if_pos h1]; exact .inl ⟨h1,rfl,by dsimp only; generalize fP r = p; omega⟩
 · rw [if_neg h1]
   by_cases h2 : fMin r < fMax r
   · rw [if_pos h2]; exact .inr ⟨h1,n0,n1,rfl,.inr hn⟩
   · rw [if_neg h2]; exact .inr ⟨h1,Nat.le_refl _,Nat.le_trans n0 n1,rfl,.inl (Nat.le_antisymm (Nat.le_trans n0 n1) (Nat.not_lt.1 h2))⟩
theorem hit {r s k N : Nat} (h13 : 13 <= r) (hr : r < 9218868437227405312) (hs : Bv r = false) (hl : Least (fMin r) (fMax r) (Ai r).1 s k N) (h17 : N <= 17) :
   C9 r (fixN r N).1 (fixN r N).2 = true /\ (fixN r N).1 = s /\ (fixN r N).2 = (Ai r).2 + k:=by
 have h : 0 < r:=Nat.lt_of_lt_of_le (by decide) h13
 have hP : -400 <= -fP r + 1 /\ -400 <= -fP r /\ -350 <= -fP r:=by
   have hps:=Cy h hr;generalize fP r = p at *;omega
 have hw:=short_way h hr hs
 have hp0 : -400 <= (Ai r).2:=by
   rcases hw with ⟨_,_,c⟩ | ⟨_,_,_,c,_⟩
   · rw [c]; exact hP.1
   · rw [c]; exact hP.2.1
 obtain ⟨a,b⟩:=hit_core (units_of h13 hr hs) hl (Nat.mul_pos (Nat.two_pow_pos _) (Nat.pow_pos (by decide))) hP.2.2 (Ez h hr hl.pos h17).1 (Ez h hr hl.pos h17).2.1
   ((inS_iff h hs _).2 ((dec_T hp0).1 (short_ok h hr))) hw
 exact ⟨Fa.2 ((inS_iff h hs _).1 a),b⟩
theorem Fz {n d : Nat} {q : Int} {up : Bool} (hn : 1 <= n) (h0 : 10 ^ (n - 1) <= d) (h1 : d < 10 ^ n) :
   10 ^ (n - 1) <= (Aj n d q up).1 /\ (Aj n d q up).1 < 10 ^ n /\ q - 1 <= (Aj n d q up).2 /\ (Aj n d q up).2 <= q + 1:=by
 have h2 : (10 : Nat) ^ n = 10 * 10 ^ (n - 1):=by
   obtain ⟨k,rfl⟩ : ∃ k,n = k + 1:=⟨n - 1,by omega⟩;rw [Nat.pow_succ,Nat.mul_comm]; simp
 have h3 : 0 < (10 : Nat) ^ (n - 1):=Nat.pow_pos (by decide)
 unfold Aj
 rw [h2] at h1 ⊢
 generalize (10 : Nat) ^ (n - 1) = P at *
 split <;> split <;> simp only [] <;> omega
theorem seek_least {r s k N : Nat} (h13 : 13 <= r) (hr : r < 9218868437227405312) (hs : Bv r = false) (hl : Least (fMin r) (fMax r) (Ai r).1 s k N) (h17 : N <= 17) :
   ∀ fuel n,1 <= n -> n <= N -> N < n + fuel -> Bo r fuel n = (N,fixN r N)
 | 0,n,_,h1,h2 => by omega
 | fuel + 1,n,h0,h1,h2 => by
   rcases Nat.eq_or_lt_of_le h1 with e | hlt
   · subst e
     unfold Bo;rw [if_pos (hit h13 hr hs hl h17).1]
   · obtain ⟨hf,q0,q1⟩:=Ez (by omega) hr h0 (show n <= 17 by omega)
     have hP : (10 : Nat) ^ n <= 10 ^ (N - 1):=Nat.pow_le_pow_right (by decide) (by omega);have hPp : 0 < (10 : Nat) ^ (n - 1):=Nat.pow_pos (by decide);have no : ∀ {d : Nat} {q : Int},10 ^ (n - 1) <= d -> d < 10 ^ n -> -400 <= q -> ¬ C9 r d q = true:=fun a b c hrd => by
       have:=few_no h13 hr hs hl c (by omega) hrd;omega
     obtain ⟨b0,b1,b2,b3⟩:=Fz (q:=(fixN r n).2) (up:=decide ((fixN r n).1 * tT (fixN r n).2 < vT r)) h0 hf.low hf.high;unfold Bo;rw [if_neg (no hf.low hf.high (by omega)),if_neg (no b0 b1 (by omega))];exact seek_least h13 hr hs hl h17 fuel (n + 1) (by omega) hlt (by omega)
theorem ends_all {r : Nat} (h : 0 < r) (hr : r < 9218868437227405312) : endsB r = true:=by
 rcases Nat.lt_or_ge r 1000 with h0 | h0
 · have:=Ca ends_few r h0
   rw [decide_eq_false (by omega),Bool.false_or] at this;exact this
 cases hs : Bv r
 · obtain ⟨s,k,N,hl⟩:=least_of (by omega) hr hs
   have h17 : N <= 17:=by
     have hm:=many17 h hr hs;obtain ⟨hf,q0,q1⟩:=Ez h hr (n:=17) (by decide) (by decide);have:=few_no (d:=(fixN r 17).1) (q:=(fixN r 17).2) (by omega) hr hs hl (by omega) (by have:=hf.low; omega) (Fa.2 ((inS_iff h hs _).1 hm));have h2 : (10 : Nat) ^ (N - 1) < 10 ^ 17:=Nat.lt_of_le_of_lt this hf.high;have:=(Nat.pow_lt_pow_iff_right (a:=10) (by decide)).1 h2;omega
   have e:=seek_least (by omega) hr hs hl h17 17 1 (by decide) hl.pos (by omega);obtain ⟨_,e1,e2⟩:=hit (by omega) hr hs hl h17;unfold endsB;rw [e];simp only [Bool.and_eq_true,decide_eq_true_eq];refine ⟨⟨⟨⟨⟨?_,?_⟩,?_⟩,?_⟩,?_⟩,?_⟩
   · rw [e1,e2,show ((Ai r).2 + (k : Int) - (Ai r).2).toNat = k by omega]; exact hl.eq
   · rw [e2]; omega
   · rw [e1]; exact hl.last
   · rw [e1]; exact hl.low
   · rw [e1]; exact hl.high
   · exact hl.pos
 · simp only [Bv,Bool.and_eq_true,decide_eq_true_eq] at hs
   have hsp:=Bm r;have hk:=Gc hr;have:=Ca ends_skew (rK r) hk;rw [decide_eq_false (by omega),Bool.false_or] at this;rw [hsp.1,hs.1,show rK r * 4503599627370496 + 4503599627370496 = (rK r + 1) * 4503599627370496 by omega];exact this
def layE (n : Nat) : List UInt8:=(if n < 10 then [48] else []) ++ Lib.itoa (n : Int)
def layL (D : List UInt8) (x : Int) : List UInt8:=
 if x < -4 \/ 21 <= x then D.take 1 ++ ((if 1 < D.length then 46 :: D.drop 1 else []) ++ (101 :: ((if x < 0 then 45 else 43) :: layE x.natAbs)))
 else if x < 0 then [48,46] ++ (List.replicate (-x - 1).toNat 48 ++ D)
 else if (D.length : Int) <= x + 1 then D ++ List.replicate ((x + 1).toNat - D.length) 48
 else D.take (x + 1).toNat ++ 46 :: D.drop (x + 1).toNat
def expTab (n : Nat) : Bool:=decide (layE n = (expL (n : Int)).tail)
theorem exp_tabs : allN 1000 expTab = true:=by decide +kernel
theorem expL_lay (x : Int) (h : x.natAbs < 1000) : expL x = (if x < 0 then 45 else 43) :: layE x.natAbs:=by
 have h1:=Ca exp_tabs x.natAbs h;have h2 : layE x.natAbs = (expL (x.natAbs : Int)).tail:=of_decide_eq_true h1;rw [h2];unfold expL;rw [List.tail_cons,Int.natAbs_natCast]
theorem lay_eff {D : List UInt8} {x : Int} (hD : D ≠ []) (hx : x.natAbs < 1000) : layL D x = if x < -4 \/ 21 <= x then effE false D (x + 1) else effF false D (x + 1):=by
 obtain ⟨c,T,rfl⟩ : ∃ c T,D = c :: T:=by cases D with | nil => exact absurd rfl hD | cons c T => exact ⟨c,T,rfl⟩
 unfold layL;by_cases h : x < -4 \/ 21 <= x
 · rw [if_pos h,if_pos h]
   unfold effE;rw [if_neg hD,show x + 1 - 1 = x by omega,expL_lay x hx];simp [Bb]
 · rw [if_neg h,if_neg h]
   unfold effF;by_cases h0 : x < 0
   · rw [if_pos h0,if_neg (by omega : ¬ 0 < x + 1),if_pos (by rw [List.length_cons]; omega),show (x + 1).toNat = 0 by omega,show -(x + 1) = -x - 1 by omega]
     simp [Bb]
   · rw [if_neg h0,if_pos (by omega : 0 < x + 1)]
     by_cases h1 : ((c :: T).length : Int) <= x + 1
     · rw [if_pos h1,if_neg (by omega),List.take_of_length_le (by omega)]
       simp [Bb]
     · rw [if_neg h1,if_pos (by omega),show (x + 1).toNat - (c :: T).length = 0 by omega,show (-(x + 1)).toNat = 0 by omega]
       simp [Bb]
theorem dec_mul10 {s : Nat} (h : 0 < s) : Lib.decDigits (s * 10) = Lib.decDigits s ++ [48]:=by
 rw [Lib.decDigits,dif_neg (by omega),show s * 10 / 10 = s by omega,show s * 10 % 10 = 0 by omega]; rfl
theorem fdec_tens {s : Nat} (h : 0 < s) : ∀ k,Lib.decDigits (s * 10 ^ k) = Lib.decDigits s ++ List.replicate k 48
 | 0 => by simp
 | k + 1 => by
   rw [Nat.pow_succ,<- Nat.mul_assoc,dec_mul10 (Nat.mul_pos h (Nat.pow_pos (by decide))),fdec_tens h k,List.append_assoc,List.replicate_succ']
theorem dec_last {s : Nat} (h : s % 10 ≠ 0) : ∃ l c,Lib.decDigits s = l ++ [c] /\ c ≠ 48:=by
 have key : ∀ n : Nat,n < 10 -> n ≠ 0 -> UInt8.ofNat (48 + n) ≠ 48:=fun n h1 h2 e => by
   have:=congrArg UInt8.toNat e;rw [u8_toNat h1] at this;exact h2 (by simpa using this)
 rw [Lib.decDigits];by_cases h1 : s < 10
 · rw [dif_pos h1]; exact ⟨[],_,rfl,key s h1 (by omega)⟩
 · rw [dif_neg h1]; exact ⟨_,_,rfl,key _ (Nat.mod_lt _ (by decide)) h⟩
theorem strip_tens {s k : Nat} (h : s % 10 ≠ 0) : A7 (Lib.decDigits (s * 10 ^ k)) = Lib.decDigits s:=by
 obtain ⟨l,c,e,hc⟩:=dec_last h;rw [fdec_tens (by omega),A7,List.reverse_append,List.reverse_replicate,List.dropWhile_append_of_pos (by simp),e,List.reverse_append];have hc' : (c == 48) = false:=by simpa using hc
 simp [List.dropWhile,hc']
theorem Dl {s n : Nat} (h1 : 1 <= n) (h2 : 10 ^ (n - 1) <= s) (h3 : s < 10 ^ n) : Lib.nDigits s = n:=by
 obtain ⟨k,rfl⟩ : ∃ k,n = k + 1:=⟨n - 1,by omega⟩;rw [Nat.add_sub_cancel] at h2;clear h1;induction k generalizing s with
 | zero => exact Lib.nDigits_small (by simpa using h3)
 | succ k ih =>
   rw [Nat.pow_succ] at h2 h3;have h4 : 0 < 10 ^ k:=Nat.pow_pos (by decide);rw [Lib.nDigits_big (by omega),ih (by omega) (by rw [Nat.pow_succ] at *; omega)]
theorem seek_digs {r : Nat} (h : 0 < r) (hr : r < 9218868437227405312) :
   Lib.decDigits (Bo r 17 1).2.1 = digL r /\ (Bo r 17 1).2.2 + ((Bo r 17 1).1 : Int) = Ba r /\ (Lib.decDigits (Bo r 17 1).2.1).length = (Bo r 17 1).1 /\ 1 <= (Bo r 17 1).1 /\ 0 < (Bo r 17 1).2.1:=by
 have he:=ends_all h hr
 unfold endsB at he
 obtain ⟨S,hS⟩ : ∃ S,S = Bo r 17 1:=⟨_,rfl⟩
 rw [<- hS] at he ⊢
 clear hS
 obtain ⟨N,s,q⟩:=S
 simp only [Bool.and_eq_true,decide_eq_true_eq] at he
 obtain ⟨⟨⟨⟨⟨e1,e2⟩,e3⟩,e4⟩,e5⟩,e6⟩:=he
 have hN:=Dl e6 e4 e5
 unfold digL Ba
 rw [if_neg (by omega),if_neg (by omega)]
 generalize (Ai r).1 = d at *
 generalize (Ai r).2 = p at *
 obtain ⟨k,hk⟩ : ∃ k : Nat,(q - p).toNat = k:=⟨_,rfl⟩
 rw [hk] at e1
 subst e1
 have hs0 : 0 < s:=by omega
 refine ⟨(strip_tens e3).symm,?_,by rw [Lib.decDigits_length,hN],e6,hs0⟩
 have h9 : Lib.nDigits (s * 10 ^ k) = N + k:=by
   rw [<- Lib.decDigits_length,fdec_tens hs0,List.length_append,List.length_replicate,Lib.decDigits_length,hN]
 show q + (N : Int) = _
 rw [h9]; omega
theorem rv_mono {r s : Nat} (h : r <= s) : rv r <= rv s:=by
 rcases Nat.eq_or_lt_of_le h with e | e
 · rw [e]; exact Nat.le_refl _
 · exact Nat.le_of_lt (Ex e)
theorem mid_val {r : Nat} (h : 0 < r) : mid (r - 1) <= 2 * rv r /\ 2 * rv r <= mid r:=by
 have h1 : mid r = rv r + rv (r + 1):=rfl;have h2 : mid (r - 1) = rv (r - 1) + rv r:=by
   unfold mid; rw [Nat.sub_add_cancel h]
 have h3 : rv (r - 1) <= rv r:=rv_mono (by omega);have h4 : rv r <= rv (r + 1):=rv_mono (by omega);omega
theorem read_side {r R d : Nat} {q : Int} (h : 0 < r) (hq : -400 <= q) (hR : InI R (decA d q) (Ao q)) (hne : R ≠ r) : R < r ↔ d * tT q < vT r:=by
 have hI:=(dec_T hq).1 hR;have hT : 0 < 10 ^ tK:=Nat.pow_pos (by decide);obtain ⟨m0,m1⟩:=mid_val h;have k0 : mid (r - 1) * 10 ^ tK <= vT r:=Nat.mul_le_mul_right _ m0;have k1 : vT r <= mid r * 10 ^ tK:=Nat.mul_le_mul_right _ m1;have hlow:=hI.low;have hhigh:=hI.high;generalize d * tT q = a at *;constructor
 · intro hlt
   have h3 : mid R * 10 ^ tK <= mid (r - 1) * 10 ^ tK:=Nat.mul_le_mul_right _ (Gh (by omega));by_cases he : R = r - 1
   · subst he
     rcases hhigh with h9 | ⟨h9,_⟩
     · omega
     · have h4 : mid (r - 1) * 10 ^ tK < vT r:=by
         refine Nat.mul_lt_mul_of_pos_right ?_ hT;have h2 : mid (r - 1) = rv (r - 1) + rv r:=by
           unfold mid; rw [Nat.sub_add_cancel h]
         have h3 : rv (r - 1) < rv r:=Ex (by omega);omega
       omega
   · have h4 : mid R * 10 ^ tK < mid (r - 1) * 10 ^ tK:=Nat.mul_lt_mul_of_pos_right (mid_lt (by omega)) hT
     omega
 · intro hlt
   rcases Nat.lt_trichotomy R r with h9 | h9 | h9
   · exact h9
   · exact absurd h9 hne
   · exfalso
     have h3 : mid r * 10 ^ tK <= mid (R - 1) * 10 ^ tK:=Nat.mul_le_mul_right _ (Gh (by omega));omega
theorem read_same {r R d : Nat} {q : Int} (hq : -400 <= q) (hR : InI R (decA d q) (Ao q)) : R = r ↔ C9 r d q = true:=by
 have hI:=(dec_T hq).1 hR;rw [Fa];exact ⟨fun e => e ▸ hI,fun e => hI.uniq (Nat.pow_pos (by decide)) e⟩
def vLeast : Nat:=vT 1
def vmax : Nat:=vT 9218868437227405311
def tA : Nat:=tT (-324)
def tZ : Nat:=tT 309
theorem v_bounds : tA <= vLeast /\ 2 * vmax < tZ:=by decide +kernel
theorem vT_le {a b : Nat} (h : a <= b) : vT a <= vT b:=Nat.mul_le_mul_right _ (Nat.mul_le_mul_left _ (rv_mono h))
theorem tT_lt {p q : Int} (hp : -400 <= p) (h : tT p < tT q) : p < q:=by
 rcases Int.lt_or_le p q with h9 | h9
 · exact h9
 · exfalso
   have hk:=tK_is;have : tT q <= tT p:=Nat.mul_le_mul_right _ (Nat.pow_le_pow_right (by decide) (by omega));omega
theorem fix_place {r n : Nat} (h : 0 < r) (hr : r < 9218868437227405312) (h1 : 1 <= n) (h17 : n <= 17) : -341 <= (fixN r n).2 /\ (fixN r n).2 <= 308:=by
 obtain ⟨⟨f1,f2,f3,f4,_,_⟩,q0,q1⟩:=Ez h hr h1 h17;obtain ⟨b0,b1⟩:=v_bounds;have c0 : vLeast <= vT r:=vT_le h;have c1 : vT r <= vmax:=vT_le (by omega);generalize (fixN r n).1 = d at *;generalize (fixN r n).2 = q at *;have ht:=E6 q;have hP : 0 < 10 ^ (n - 1):=Nat.pow_pos (by decide);have hP2 : (10 : Nat) ^ n <= 10 ^ 17:=Nat.pow_le_pow_right (by decide) h17;have e1 : (2 * d + 1) * tT q = 2 * (d * tT q) + tT q:=by rw [Nat.add_mul,Nat.one_mul,Nat.mul_assoc]
 have e2 : 2 * d * tT q = 2 * (d * tT q):=Nat.mul_assoc _ _ _;have e3 : tT q <= d * tT q:=Nat.le_mul_of_pos_left _ (by omega);have e4 : (d + 1) * tT q <= 10 ^ 17 * tT q:=Nat.mul_le_mul_right _ (by omega);rw [Nat.add_mul,Nat.one_mul] at e4;have e5 : tT (q + (17 : Nat)) = 10 ^ 17 * tT q:=tT_add (by omega) 17;rw [e1] at f3;rw [e2] at f4;have k1 : tT q < tZ:=by clear b0 c0 e5 e4; generalize tZ = z at *; generalize vmax = y at *; omega
 have k0 : tA < tT (q + (17 : Nat)):=by
   rw [e5];clear b1 c1 k1 e5;generalize tA = z at *;generalize vLeast = y at *;generalize 10 ^ 17 * tT q = x at *;omega
 have l1 : q < 309:=tT_lt (by omega) k1;have l0 : -324 < q + (17 : Nat):=tT_lt (by omega) k0;omega
theorem dv_inj {c d : UInt8} (hc : isD c = true) (hd : isD d = true) (h : dv c = dv d) : c = d:=by
 unfold isD at hc hd;simp only [Bool.and_eq_true,decide_eq_true_eq] at hc hd;unfold dv at h;apply UInt8.toNat_inj.1;omega
theorem digs_uniq : ∀ {L M : List UInt8},(∀ c ∈ L,isD c = true) -> (∀ c ∈ M,isD c = true) -> L.length = M.length -> valD L = valD M -> L = M
 | [],[],_,_,_,_ => rfl
 | [],_ :: _,_,_,h,_ => by simp at h
 | _ :: _,[],_,_,h,_ => by simp at h
 | c :: L,d :: M,hL,hM,hl,hv => by
   have hl' : L.length = M.length:=by simpa using hl
   rw [Bz,Bz,hl'] at hv;have h1:=Gl (l:=L) (fun x hx => hL x (List.mem_cons_of_mem _ hx));have h2:=Gl (l:=M) (fun x hx => hM x (List.mem_cons_of_mem _ hx));rw [hl'] at h1;have hp : 0 < 10 ^ M.length:=Nat.pow_pos (by decide);have e1:=congrArg (· / 10 ^ M.length) hv
   have e2:=congrArg (· % 10 ^ M.length) hv
   simp only [Nat.mul_comm (dv _),Nat.mul_add_div hp,Nat.mul_add_mod,Nat.div_eq_of_lt h1,Nat.div_eq_of_lt h2,Nat.mod_eq_of_lt h1,Nat.mod_eq_of_lt h2,Nat.add_zero] at e1 e2;rw [dv_inj (hL c (List.mem_cons_self ..)) (hM d (List.mem_cons_self ..)) e1,digs_uniq (fun x hx => hL x (List.mem_cons_of_mem _ hx)) (fun x hx => hM x (List.mem_cons_of_mem _ hx)) hl' e2]
theorem Gp {L : List UInt8} {v n : Nat} (hL : ∀ c ∈ L,isD c = true) (hn : 1 <= n) (hl : L.length = n) (hv : valD L = v) (h0 : 10 ^ (n - 1) <= v) (h1 : v < 10 ^ n) : L = Lib.decDigits v:=by
 refine digs_uniq hL (D0 v) ?_ (by rw [hv,Dn]);rw [hl,Lib.decDigits_length,Dl hn h0 h1]
theorem Ev : ∀ k,valD (List.replicate k 57) + 1 = 10 ^ k
 | 0 => rfl
 | k + 1 => by
   rw [List.replicate_succ,Bz,List.length_replicate,Nat.add_assoc,Ev k,Nat.pow_succ,show dv 57 = 9 by decide]; omega
theorem isD_rep (k : Nat) {c : UInt8} (h : isD c = true) : ∀ b ∈ List.replicate k c,isD b = true:=fun b hb => by rw [List.eq_of_mem_replicate hb]; exact h
theorem beside_mid {A : List UInt8} {c : UInt8} {k d n : Nat} {q : Int} {up : Bool} (hd : Lib.decDigits d = A ++ c :: List.replicate k (if up then 57 else 48)) (hn : 1 <= n) (h0 : 10 ^ (n - 1) <= d) (h1 : d < 10 ^ n)
   (hc : c ≠ (if up then 57 else 48)) (hA : up = false -> A = [] -> c ≠ 49) :
   A ++ (if up then c + 1 else c - 1) :: List.replicate k (if up then 48 else 57) = Lib.decDigits (Aj n d q up).1 /\ (Aj n d q up).2 = q:=by
 have hdig : ∀ b ∈ A ++ c :: List.replicate k (if up then 57 else 48),isD b = true:=by rw [<- hd]; exact D0 d
 have hcd : isD c = true:=hdig c (by simp)
 have hlen : A.length + (k + 1) = n:=by
   have:=congrArg List.length hd;rw [Lib.decDigits_length,Dl hn h0 h1,List.length_append,List.length_cons,List.length_replicate] at this;exact this.symm
 have hval : d = valD A * 10 ^ (k + 1) + (dv c * 10 ^ k + valD (List.replicate k (if up then 57 else 48))):=by
   have:=congrArg valD hd;rw [Dn,C3,Bz,List.length_cons,List.length_replicate] at this;exact this
 have hcn : 48 <= c.toNat /\ c.toNat <= 57:=by
   unfold isD at hcd;simpa using hcd
 have hb:=Fz (q:=q) (up:=up) hn h0 h1
 have hAd : ∀ b ∈ A,isD b = true:=fun b hb => hdig b (List.mem_append_left _ hb)
 cases up
 · have hc48 : c.toNat ≠ 48:=fun e => hc (by show c = 48; exact UInt8.toNat_inj.1 e)
   have hc1 : (c - 1).toNat = c.toNat - 1:=by rw [UInt8.toNat_sub_of_le _ _ (by show 1 <= c.toNat; omega)]; rfl
   have hc1d : isD (c - 1) = true:=by unfold isD; rw [hc1]; simp; omega
   have hdv : dv (c - 1) + 1 = dv c:=by unfold dv; rw [hc1]; omega
   have hz : valD (List.replicate k 48) = 0:=C0 fun b hb => List.eq_of_mem_replicate hb;have h9:=Ev k;simp only [Bool.false_eq_true,if_false] at hval hd hb ⊢;rw [hz] at hval;have hne : d ≠ 10 ^ (n - 1):=by
     intro e;have hk : n - 1 = A.length + k:=by omega
     cases A with
     | nil =>
       have hne49:=hA rfl rfl;have : dv c ≠ 1:=fun e9 => hne49 (by
         apply UInt8.toNat_inj.1;unfold dv at e9;show c.toNat = 49;omega)
       rw [e,hk,List.length_nil,Nat.zero_add,show valD [] = 0 from rfl,Nat.zero_mul,Nat.zero_add,Nat.add_zero] at hval;have hp : 0 < 10 ^ k:=Nat.pow_pos (by decide);have : dv c = 1:=by
         refine Nat.eq_of_mul_eq_mul_right hp ?_;rw [<- hval,Nat.one_mul]
       contradiction
     | cons a A =>
       have h3 : 10 ^ (A.length + 1) <= valD (a :: A) * 10:=by
         have ha : isD a = true:=hAd a (List.mem_cons_self ..);have ha0 : dv a ≠ 0:=by
           obtain ⟨c',l',e',hc'⟩:=Fg (u:=d) (Nat.lt_of_lt_of_le (Nat.pow_pos (by decide)) h0);rw [e',List.cons_append] at hd;rw [<- (List.cons.inj hd).1];intro e9;apply hc';apply UInt8.toNat_inj.1;have hh:=D0 d c' (by rw [e']; exact List.mem_cons_self ..);unfold isD at hh;simp only [Bool.and_eq_true,decide_eq_true_eq] at hh;unfold dv at e9;show c'.toNat = 48;omega
         rw [Bz,Nat.pow_succ];refine Nat.mul_le_mul_right _ ?_;have : 1 * 10 ^ A.length <= dv a * 10 ^ A.length:=Nat.mul_le_mul_right _ (by omega);omega
       have h4 : 10 ^ (A.length + 1) * 10 ^ k <= valD (a :: A) * 10 * 10 ^ k:=Nat.mul_le_mul_right _ h3;rw [<- Nat.pow_add] at h4;rw [e,hk,List.length_cons,Nat.add_zero,Nat.pow_succ 10 k,Nat.mul_comm (10 ^ k) 10,<- Nat.mul_assoc] at hval;have h5 : 0 < dv c * 10 ^ k:=Nat.mul_pos (by unfold dv; omega) (Nat.pow_pos (by decide));omega
   have hbs : Aj n d q false = (d - 1,q):=by
     unfold Aj;rw [if_neg (by decide),if_neg hne]
   rw [hbs] at hb ⊢;refine ⟨Gp (n:=n) ?_ hn (by simp; omega) ?_ hb.1 hb.2.1,rfl⟩
   · intro b hb
     rcases List.mem_append.1 hb with hb | hb
     · exact hAd b hb
     · rcases List.mem_cons.1 hb with rfl | hb
       · exact hc1d
       · exact isD_rep k (by decide) b hb
   · rw [C3,Bz,List.length_cons,List.length_replicate]
     have e3 : dv c * 10 ^ k = dv (c - 1) * 10 ^ k + 10 ^ k:=by rw [<- hdv,Nat.add_mul,Nat.one_mul]
     show _ = d - 1;omega
 · have hc57 : c.toNat ≠ 57:=fun e => hc (by show c = 57; exact UInt8.toNat_inj.1 e)
   have hc1 : (c + 1).toNat = c.toNat + 1:=by rw [UInt8.toNat_add]; show (c.toNat + 1) % 256 = _; omega
   have hc1d : isD (c + 1) = true:=by unfold isD; rw [hc1]; simp; omega
   have hdv : dv (c + 1) = dv c + 1:=by unfold dv; rw [hc1]; omega
   have hz : valD (List.replicate k 48) = 0:=C0 fun b hb => List.eq_of_mem_replicate hb;have h9:=Ev k;simp only [if_true] at hval hd hb ⊢;have hvn : valD (A ++ (c + 1) :: List.replicate k 48) = d + 1:=by
     rw [C3,Bz,List.length_cons,List.length_replicate,hz,hdv,Nat.add_mul,Nat.one_mul];omega
   have hdn : ∀ b ∈ A ++ (c + 1) :: List.replicate k 48,isD b = true:=by
     intro b hb;rcases List.mem_append.1 hb with hb | hb
     · exact hAd b hb
     · rcases List.mem_cons.1 hb with rfl | hb
       · exact hc1d
       · exact isD_rep k (by decide) b hb
   have hlt:=Gl hdn;have hl2 : (A ++ (c + 1) :: List.replicate k 48).length = n:=by simp; omega
   rw [hvn,hl2] at hlt;have hbs : Aj n d q true = (d + 1,q):=by
     unfold Aj;rw [if_pos rfl,if_neg (by omega)]
   rw [hbs] at hb ⊢;exact ⟨Gp (n:=n) hdn hn hl2 hvn hb.1 hb.2.1,rfl⟩
theorem beside_top {n d : Nat} {q : Int} (hd : Lib.decDigits d = List.replicate n 57) (hn : 1 <= n) : 49 :: List.replicate (n - 1) 48 = Lib.decDigits (Aj n d q true).1 /\ (Aj n d q true).2 = q + 1:=by
 have h9:=Ev n;have hv:=congrArg valD hd;rw [Dn] at hv;have hbs : Aj n d q true = (10 ^ (n - 1),q + 1):=by
   unfold Aj;rw [if_pos rfl,if_pos (by omega)]
 rw [hbs];have hz : valD (List.replicate (n - 1) 48) = 0:=C0 fun b hb => List.eq_of_mem_replicate hb;refine ⟨Gp (n:=n) ?_ hn (by simp; omega) ?_ (Nat.le_refl _) (Nat.pow_lt_pow_right (by decide) (by omega)),rfl⟩
 · intro b hb
   rcases List.mem_cons.1 hb with rfl | hb
   · decide
   · exact isD_rep _ (by decide) b hb
 · rw [Bz,List.length_replicate,hz,show dv 49 = 1 by decide]; omega
theorem beside_low {n d : Nat} {q : Int} (hd : Lib.decDigits d = 49 :: List.replicate (n - 1) 48) (hn : 1 <= n) : 57 :: List.replicate (n - 1) 57 = Lib.decDigits (Aj n d q false).1 /\ (Aj n d q false).2 = q - 1:=by
 have h9:=Ev n;have hv:=congrArg valD hd;have hz : valD (List.replicate (n - 1) 48) = 0:=C0 fun b hb => List.eq_of_mem_replicate hb;rw [Dn,Bz,List.length_replicate,hz,show dv 49 = 1 by decide,Nat.one_mul,Nat.add_zero] at hv;have hbs : Aj n d q false = (10 ^ n - 1,q - 1):=by
   unfold Aj;rw [if_neg (by decide),if_pos hv]
 rw [hbs];have hP : (10 : Nat) ^ n = 10 * 10 ^ (n - 1):=by
   obtain ⟨k,rfl⟩ : ∃ k,n = k + 1:=⟨n - 1,by omega⟩;rw [Nat.pow_succ,Nat.mul_comm]; simp
 have hPp : 0 < (10 : Nat) ^ (n - 1):=Nat.pow_pos (by decide);have he : (57 : UInt8) :: List.replicate (n - 1) 57 = List.replicate n 57:=by
   rw [<- List.replicate_succ,show n - 1 + 1 = n by omega]
 rw [he];refine ⟨Gp (n:=n) (isD_rep _ (by decide)) hn (by simp) ?_ ?_ ?_,rfl⟩
 · show _ = 10 ^ n - 1; omega
 · show 10 ^ (n - 1) <= 10 ^ n - 1; omega
 · show 10 ^ n - 1 < 10 ^ n; omega
theorem effP_digs {n d : Nat} {dp : Int} (hn : 1 <= n) (h0 : 10 ^ (n - 1) <= d) (h1 : d < 10 ^ n) :
   effP false (A7 (Lib.decDigits d)) dp (n - 1) = (Lib.decDigits d).take 1 ++ ((if 1 < n then 46 :: (Lib.decDigits d).drop 1 else []) ++ 101 :: expL (dp - 1)):=by
 obtain ⟨j,hj⟩:=Dj (Lib.decDigits d)
 have hlen:=congrArg List.length hj
 rw [List.length_append,List.length_replicate,Lib.decDigits_length,Dl hn h0 h1] at hlen
 have hne : A7 (Lib.decDigits d) ≠ []:=fun e => by
   have:=E9 e;rw [Dn] at this;have : 0 < 10 ^ (n - 1):=Nat.pow_pos (by decide);omega
 rw [hj]
 have hzz : A7 (A7 (Lib.decDigits d) ++ List.replicate j 48) = A7 (Lib.decDigits d):=by rw [<- hj]
 rw [hzz]
 generalize A7 (Lib.decDigits d) = D at *
 cases D with
 | nil => exact absurd rfl hne
 | cons c T =>
   unfold effP;rw [if_neg (by simp)];simp only [List.length_cons] at hlen;unfold midL;by_cases h2 : 1 < n
   · rw [if_pos (by omega : 0 < n - 1),if_pos h2]
     simp only [List.length_cons,List.tail_cons,Nat.add_sub_cancel,Bb,List.headD_cons,List.cons_append,List.take_succ_cons,List.take_zero,List.drop_succ_cons,List.drop_zero];rw [show n - 1 - T.length = j by omega];simp
   · rw [if_neg (by omega : ¬ 0 < n - 1),if_neg h2]
     simp [Bb]
def expV (l : List UInt8) : Nat:=l.foldl (fun a c => 10 * a + dv c) 0
def expvTab (n : Nat) : Bool:=decide (expV (expL (n : Int)).tail = n) && (expL (n : Int)).tail.all isD && decide ((expL (n : Int)).tail.length <= 3)
theorem expv_tab : allN 1000 expvTab = true:=by decide +kernel
theorem expv_spec (x : Int) (h : x.natAbs < 1000) : ∃ E,expL x = (if x < 0 then 45 else 43) :: E /\ (∀ c ∈ E,isD c = true) /\ expV E = x.natAbs /\ E.length <= 3:=by
 have h1:=Ca expv_tab x.natAbs h;unfold expvTab at h1;simp only [Bool.and_eq_true,decide_eq_true_eq,List.all_eq_true] at h1;refine ⟨(expL (x.natAbs : Int)).tail,?_,h1.1.2,h1.1.1,h1.2⟩;unfold expL;rw [List.tail_cons,Int.natAbs_natCast]
end Go.Proofs.YtagkgfniihiinaaGreatDoor
namespace Go.Proofs.YtagkgfniihiinaaGreatDoor
open Go.RowKit
theorem unminN_any {x : Nat} (h1 : 1 <= x) (h : x < 4611686018427387904) (w : World) : Calls Tryz.prog 179 #[.int .u64 (x : Int)] w fun e w' => e = .returned (.int .u64 ((4 * x - 2 : Nat) : Int)) /\ w' = w:=by
 obtain ⟨y,hy⟩ : ∃ y : Nat,y = 4 * x - 2:=⟨_,rfl⟩;have hx4 : (x : Int) * 4 - 2 = (y : Int):=by omega
 rw [<- hy]
 go_enter Tryz.func179,Tryz.ntmps179
 go_wp2;go_ret;exact ⟨by rw [hy]; rfl,rfl⟩
theorem boolU_any (b : Bool) (w : World) : Calls Tryz.prog 226 #[.bool b] w fun e w' => e = .returned (.int .u64 (b.toNat : Int)) /\ Below w.heap.size w w':=by
 cases b
 · go_enter Tryz.func226,Tryz.ntmps226
   go_wp2;go_ret;exact ⟨rfl,Below.refl _ _⟩
 · go_enter Tryz.func226,Tryz.ntmps226
   go_wp2;go_ret;exact ⟨rfl,Below.refl _ _⟩
set_option maxRecDepth 100000 in
set_option maxHeartbeats 1600000 in
theorem div10_any (u c : Nat) (h : u < 18446744073709551000) (hc : divU u = c) (w : World) : Calls Tryz.prog 180 #[.int .u64 (u : Int),.int .u64 10] w fun e w' => e = .returned (.int .u64 (c : Int)) /\ Below w.heap.size w w':=by
 obtain ⟨q,hq⟩ : ∃ q : Nat,q = u / 10:=⟨_,rfl⟩;obtain ⟨r,hr⟩ : ∃ r : Nat,r = u % 10:=⟨_,rfl⟩;obtain ⟨b,hb⟩ : ∃ b : Nat,b = u % 2:=⟨_,rfl⟩;have hdv : (u : Int).tdiv 10 = (q : Int):=by rw [Int.tdiv_eq_ediv_of_nonneg (by omega)]; omega
 have hdv2 : (u : Int) / 10 = (q : Int):=by omega
 have hmd : (u : Int).tmod 10 = (r : Int):=by rw [Int.tmod_eq_emod_of_nonneg (by omega)]; omega
 have hmd2 : (u : Int) % 10 = (r : Int):=by omega
 have hand : bits .and .u64 (u : Int) 1 = (b : Int):=by
   have:=Cb (x:=u) (y:=1) (by omega) (by omega);rw [and_1,<- hb] at this; exact this
 obtain ⟨v,hv⟩ : ∃ v : Nat,v = Bj q (decide (b = 1)):=⟨_,rfl⟩;have hor : bits .or .u64 (q : Int) (b : Int) = (v : Int):=by
   have:=Bg (x:=q) (y:=b) (by omega) (by omega);have e : q ||| b = v:=by
     have h2:=stick_or q u;rw [<- hb] at h2; rw [h2,hv]
   rw [e] at this; exact this
 obtain ⟨t,ht⟩ : ∃ t : Bool,t = ((r : Int) != 0):=⟨_,rfl⟩;have htd : t = decide (u % 10 ≠ 0):=by
   rw [ht,hr];by_cases h0 : u % 10 = 0
   · simp [h0]
   · have : ((u % 10 : Nat) : Int) ≠ 0:=by omega
     simp [h0]; omega
 have hor2 : bits .or .u64 (v : Int) (t.toNat : Int) = (c : Int):=by
   have h9 : v <= q + 1:=by rw [hv]; exact Em _ _
   have hq9 : q < 1844674407370955100:=by omega
   have:=Bg (x:=v) (y:=t.toNat) (by omega) (by cases t <;> decide);have e : v ||| t.toNat = c:=by
     rw [or_stick,hv,htd,<- hc];unfold divU;rw [hq,hb];rcases Nat.mod_two_eq_zero_or_one u with h1 | h1
     · rw [h1]; simp [Bj]
     · have h2 : u % 10 ≠ 0:=by omega
       rw [h1]; simp [Bj,h2]; omega
   rw [e] at this; exact this
 have hbc:=boolU_any t;clear htd hv;replace hbc:=Hd hbc;have ht':=Hd ht;clear ht hr hq hb
 go_enter Tryz.func180,Tryz.ntmps180
 go_upto_region 2 with fail
 refine Ah (by kernel_rfl) (by kernel_rfl) ?_;repeat (go_big_quiet_step ((go_at_call 226; rw [<- ht'.out]; (with_reducible exact Ay (hbc.out _)))))
 refine wpQuiet_nil ?_;rintro _ ⟨xq,rfl⟩;have hS:=Ap w xq;go_wp2_with fail
 go_ret;exact ⟨rfl,hS⟩
theorem fixU_lt {r n : Nat} (h : 0 < r) (hr : r < 9218868437227405312) (h1 : 1 <= n) (h17 : n <= 17) : fixU r n < 2000000000000000000 /\ 1 <= xM r * hiT (fixP r n) / 18446744073709551616:=by
 obtain ⟨p0,p1,s0,s1⟩:=fixP_spec h hr h1 h17;obtain ⟨_,⟨m0,m1,m9⟩,_⟩:=Gf h;obtain ⟨hh0,hh⟩:=hi_lt p0 p1;have hl1 : xM r * hiT (fixP r n) / 18446744073709551616 < 18446744073709551616:=by
   have : xM r * hiT (fixP r n) <= 18446744073709551615 * 18446744073709551615:=Nat.mul_le_mul (by omega) (by omega);omega
 have hlow : 1 <= xM r * hiT (fixP r n) / 18446744073709551616:=by
   have : 4611686018427387904 * 9223372036854775808 <= xM r * hiT (fixP r n):=Nat.mul_le_mul m0 hh0;omega
 refine ⟨?_,hlow⟩;have hp : 16 <= 2 ^ (Dw r n).toNat:=by
   have : 2 ^ 4 <= 2 ^ (Dw r n).toNat:=Nat.pow_le_pow_right (by decide) (by omega);exact this
 have key : ∀ H : Nat,H < 18446744073709551616 -> H / 2 ^ (Dw r n).toNat <= 1152921504606846976:=fun H hH => by
   have : H / 2 ^ (Dw r n).toNat <= H / 16:=Nat.div_le_div_left hp (by decide);omega
 have fin : ∀ H b,H < 18446744073709551616 -> Bj (H / 2 ^ (Dw r n).toNat) b < 2000000000000000000:=fun H b hH => by
   have:=key H hH;have:=Em (H / 2 ^ (Dw r n).toNat) b;omega
 unfold fixU B1;split
 · exact fin _ _ hl1
 · split
   · exact fin _ _ (by omega)
   · exact fin _ _ hl1
set_option maxRecDepth 100000 in
set_option maxHeartbeats 6400000 in
theorem fixed_any {r n : Nat} (h : 0 < r) (hr : r < 9218868437227405312) (h1 : 1 <= n) (h17 : n <= 17) (prec : Int) {w : World} (hF : Flo w) :
   Calls Tryz.prog 145 #[.int .u64 (xM r : Int),.int .i64 ((rK r : Int) - 1074 - fS r),.int .i64 (n : Int),.int .i64 prec,.int .u8 101] w
     fun x w' => x = .returned (.tuple #[.int .u64 ((fixN r n).1 : Int),.int .i64 (fixN r n).2]) /\ Below w.heap.size w w':=by
 obtain ⟨p0,p1,s0,s1⟩:=fixP_spec h hr h1 h17
 obtain ⟨f0,f1,f2,m0,m1⟩:=B0 h
 have hK:=Gc hr
 obtain ⟨hu9,hh1⟩:=fixU_lt h hr h1 h17
 have hX9 : xM r < 18446744073709551616:=by have:=Nat.two_pow_pos (fS r); omega
 have hhl:=(hi_lt p0 p1).2
 have hll:=lo_lt (fixP r n)
 obtain ⟨e,he⟩ : ∃ e : Int,e = (rK r : Int) - 1074 - fS r:=⟨_,rfl⟩
 obtain ⟨p,hp⟩ : ∃ p : Int,p = fixP r n:=⟨_,rfl⟩
 obtain ⟨l,hl⟩ : ∃ l : Int,l = lp10 p:=⟨_,rfl⟩
 obtain ⟨l2,hl2⟩ : ∃ l : Int,l = B5 (e + 63):=⟨_,rfl⟩
 obtain ⟨s,hs⟩ : ∃ s : Nat,Dw r n = s:=⟨(Dw r n).toNat,by omega⟩
 have hl1 : -3000 <= l /\ l <= 3000:=by rw [hl]; unfold lp10; omega
 have hpl : (n : Int) - 1 - l2 = p:=by
   rw [hp,hl2,he];unfold fixP fixX;rw [show (rK r : Int) - 1074 - fS r + 63 = (rK r : Int) - 1011 - fS r by omega]
 have hl29 : -1000 <= l2 /\ l2 <= 1000:=by omega
 have hsv : -(e + l + 3) = (s : Int):=by
   have : Dw r n = fS r + 1071 - lp10 (fixP r n) - rK r:=rfl;rw [<- hp,<- hl] at this; omega
 have hN : fixN r n = if 4 * 10 ^ n - 2 <= fixU r n then (rndU (divU (fixU r n)),1 - fixP r n) else (rndU (fixU r n),-fixP r n):=rfl
 have hU : fixU r n = B1 18446744073709551616 (xM r) (hiT (fixP r n)) (loT (fixP r n)) (Dw r n).toNat:=rfl
 obtain ⟨u,hu⟩ : ∃ u,u = fixU r n:=⟨_,rfl⟩
 obtain ⟨X,hX⟩ : ∃ X,X = xM r:=⟨_,rfl⟩
 rw [hs,Int.toNat_natCast,<- hu,<- hp,<- hX] at hU
 rw [<- hu,<- hp] at hN
 rw [<- hu] at hu9
 rw [<- hp,<- hX] at hh1
 rw [<- hp] at hhl hll p0 p1
 rw [<- hX] at hX9
 rw [<- he,<- hX]
 have he9 : -1200 <= e /\ e <= 1000:=by omega
 have c1 : ∀ w,Calls Tryz.prog 144 #[.int .i64 (e + 63)] w fun e w' => e = .returned (.int .i64 l2) /\ w' = w:=fun w => by rw [hl2]; exact log10P_any (e + 63) (by omega) (by omega) w
 have c2 : ∀ w,Calls Tryz.prog 173 #[.int .i64 p] w fun e w' => e = .returned (.int .i64 l) /\ w' = w:=fun w => by rw [hl]; exact log2P_any p (by omega) (by omega) w
 obtain ⟨T,hT⟩ : ∃ T : Nat,T = 10 ^ n:=⟨_,rfl⟩
 have hT1 : 1 <= T:=by rw [hT]; exact Nat.pow_pos (by decide)
 have hT9 : T <= 100000000000000000:=by
   have : (10 : Nat) ^ n <= 10 ^ 17:=Nat.pow_le_pow_right (by decide) h17;have : (10 : Nat) ^ 17 = 100000000000000000:=by decide
   omega
 rw [<- hT] at hN
 have c3:=fun w => unminN_any hT1 (by omega) w
 obtain ⟨T4,hT4⟩ : ∃ t : Nat,t = 4 * T - 2:=⟨_,rfl⟩
 rw [<- hT4] at hN c3
 have hP:=hF.pows
 obtain ⟨w1,hw1⟩ : ∃ w1,w1 = w.alloc (.cells #[.int .u64 0,.int .u64 0,.int .i64 0] 234):=⟨_,rfl⟩
 have hb1 : Below w.heap.size w w1:=by rw [hw1]; exact (Below.refl _ _).alloc (Nat.le_refl _) _
 have hP1 : Pows w1:=hP.below hb1 hP.lt
 have hblk : Blk w1 w.heap.size:=by rw [hw1]; exact Blk.new _ _ _
 have hc0 : w1.cell? ⟨w.heap.size,0,none⟩ = some (.int .u64 0):=by rw [hw1,World.cell?_alloc_new]; rfl
 have hc1 : w1.cell? ⟨w.heap.size,1,none⟩ = some (.int .u64 0):=by rw [hw1,World.cell?_alloc_new]; rfl
 have hc2 : w1.cell? ⟨w.heap.size,2,none⟩ = some (.int .i64 0):=by rw [hw1,World.cell?_alloc_new]; rfl
 have hbg : w.heap.size ≠ 8:=by have:=hP.lt; omega
 have hpre:=Cc (e:=e) (p:=p) (l:=l) hblk hc0 hc1 hc2 hP1 hbg (by omega) (by omega) (by omega) (by omega) hl1.1 hl1.2
 rw [hsv] at hpre
 obtain ⟨w2,hw2⟩ : ∃ w2,w2 = ((w1.setCell ⟨w.heap.size,0,none⟩ (.int .u64 (hiT p : Int))).setCell ⟨w.heap.size,1,none⟩ (.int .u64 (loT p : Int))).setCell ⟨w.heap.size,2,none⟩ (.int .i64 (s : Int)):=⟨_,rfl⟩
 rw [<- hw2] at hpre
 have hb2 : Below w.heap.size w w2:=by
   rw [hw2];refine hb1.trans ?_;exact ((((Fr.refl (fun k => k = w.heap.size) w1).setCell (fun _ => rfl) _).setCell (fun _ => rfl) _).setCell (fun _ => rfl) _).below hb1.size (fun i hi e => by omega)
 have d0 : w2.cell? ⟨w.heap.size,0,none⟩ = some (.int .u64 (hiT p : Int)):=by rw [hw2,Af (by simp),Af (by simp)]; exact As hc0
 have d1 : w2.cell? ⟨w.heap.size,1,none⟩ = some (.int .u64 (loT p : Int)):=by rw [hw2,Af (by simp)]; exact As (by rw [Af (by simp)]; exact hc1)
 have d2 : w2.cell? ⟨w.heap.size,2,none⟩ = some (.int .i64 (s : Int)):=by rw [hw2]; exact As (by rw [Af (by simp),Af (by simp)]; exact hc2)
 have hus:=Fu (w:=w2) (b:=w.heap.size) (x:=X) (hi:=hiT p) (lo:=loT p) (s:=s) hX9 hhl hll (by omega) hh1 d0 d1 d2
 rw [<- hU] at hus
 have hTab : ∀ w',Below w.heap.size w w' -> w'.cell? ⟨5,n,none⟩ = some (.int .u64 (T : Int)):=fun w' hb => by
   have h9 : Lib.TabIs Tryz.prog w' "internal/strconv.uint64pow10" .u64 Lib.pow10Tab := Go.Joins.tab_stays Bn hF.tens hb (Nat.le_refl _);have:=h9.cell Bn n (by rw [Lib.pow10Tab_length]; omega);rw [Lib.pow10Tab_at n (by omega),<- hT] at this;exact this
 replace c1:=Hd c1
 replace c2:=Hd c2
 replace c3:=Hd c3
 replace hpre:=Hd hpre
 replace hus:=Hd hus
 replace hw1e:=Hd hw1
 replace hw2:=Hd hw2
 replace hb2:=Hd hb2
 replace hTab:=Hd hTab
 replace hX:=Hd hX
 replace hu:=Hd hu
 replace hU:=Hd hU
 replace hT:=Hd hT
 replace hT4':=Hd hT4
 replace he:=Hd he
 replace hp:=Hd hp
 replace hl:=Hd hl
 replace hl2:=Hd hl2
 replace hh1:=Hd hh1
 have hT49 : T4 < 18446744073709551000:=by omega
 clear hP hP1 hblk hc0 hc1 hc2 hb1 hs hsv hw1 hT4 hF f0 f1 f2 m0 m1 hhl hll s0 s1
 by_cases hbig : T4 <= u
 · rw [if_pos hbig] at hN
   have hbi : (T4 : Int) <= (u : Int):=by omega
   obtain ⟨c,hc⟩ : ∃ c,divU u = c:=⟨_,rfl⟩;have hc9 : c < 2000000000000000002:=by rw [<- hc]; unfold divU; have:=Em (u / 10) (decide (u % 10 ≠ 0)); omega
   obtain ⟨m,hm⟩ : ∃ m,rndU c = m:=⟨_,rfl⟩;rw [hc,hm] at hN;have c4:=fun w => div10_any u c (by omega) hc w;have c5:=fun w => C7 c m (by omega) hm w;replace hN:=Hd hN;replace c4:=Hd c4;replace c5:=Hd c5;clear hc hm hbig
   go_enter Tryz.func145,Tryz.ntmps145
   go_wp2_with fail
   refine (c1.out _).mono ?_;rintro e w' ⟨rfl,hww⟩;obtain rfl:=hww.symm;clear hww;go_wp2_with fail
   refine (c2.out _).mono ?_;rintro e w' ⟨rfl,hww⟩;obtain rfl:=hww.symm;clear hww;go_wp2_with fail
   rw [<- hw1e.out];refine hpre.out.mono ?_;rintro e w' ⟨rfl,hww⟩;obtain rfl:=hww.symm;clear hww;go_wp2_with fail
   refine hus.out.mono ?_;rintro e w3 ⟨rfl,hb3⟩;have hb03:=hb2.out.trans (hb3.mono hb2.out.size);have ht3:=hTab.out w3 hb03;replace hb03:=Hd hb03;clear hb3;go_wp2_with fail
   refine (c3.out _).mono ?_;rintro e w' ⟨rfl,hww⟩;obtain rfl:=hww.symm;clear hww;go_wp2_with fail
   refine (c4.out _).mono ?_;rintro e w4 ⟨rfl,hb4⟩;have hb04:=hb03.out.trans (hb4.mono hb03.out.size);replace hb04:=Hd hb04;clear hb4;go_wp2_with fail
   refine (c5.out _).mono ?_;rintro e w' ⟨rfl,hww⟩;obtain rfl:=hww.symm;clear hww;go_wp2
   go_ret2
   refine ⟨?_,hb04.out⟩;rw [hN.out,show 1 - p = -(p - 1) by omega];rfl
 · rw [if_neg hbig] at hN
   have hbi : decide ((T4 : Int) <= (u : Int)) = false:=decide_eq_false (by omega);have hbi2 : ¬ (T4 : Int) <= (u : Int):=by omega
   obtain ⟨m,hm⟩ : ∃ m,rndU u = m:=⟨_,rfl⟩;rw [hm] at hN;have c5:=fun w => C7 u m (by omega) hm w;replace hN:=Hd hN;replace c5:=Hd c5;clear hm hbig
   go_enter Tryz.func145,Tryz.ntmps145
   go_wp2_with fail
   refine (c1.out _).mono ?_;rintro e w' ⟨rfl,hww⟩;obtain rfl:=hww.symm;clear hww;go_wp2_with fail
   refine (c2.out _).mono ?_;rintro e w' ⟨rfl,hww⟩;obtain rfl:=hww.symm;clear hww;go_wp2_with fail
   rw [<- hw1e.out];refine hpre.out.mono ?_;rintro e w' ⟨rfl,hww⟩;obtain rfl:=hww.symm;clear hww;go_wp2_with fail
   refine hus.out.mono ?_;rintro e w3 ⟨rfl,hb3⟩;have hb03:=hb2.out.trans (hb3.mono hb2.out.size);have ht3:=hTab.out w3 hb03;replace hb03:=Hd hb03;clear hb3;go_wp2_with fail
   refine (c3.out _).mono ?_;rintro e w' ⟨rfl,hww⟩;obtain rfl:=hww.symm;clear hww;go_wp2_with fail
   refine (c5.out _).mono ?_;rintro e w' ⟨rfl,hww⟩;obtain rfl:=hww.symm;clear hww;go_wp2
   go_ret2
   refine ⟨?_,hb03.out⟩;rw [hN.out];rfl
end Go.Proofs.YtagkgfniihiinaaGreatDoor
