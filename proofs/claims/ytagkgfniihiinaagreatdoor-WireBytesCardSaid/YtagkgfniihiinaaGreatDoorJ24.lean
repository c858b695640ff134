/- internal/strconv.special; atof64 where a quotient of whole numbers is asked. -/
import Derived.Test.YtagkgfniihiinaaGreatDoorReadF
import Derived.Test.YtagkgfniihiinaaGreatDoorJ16
import Derived.Test.YtagkgfniihiinaaGreatDoorJ23
import Derived.Test.YtagkgfniihiinaaGreatDoorJ60
namespace Go.Proofs.YtagkgfniihiinaaGreatDoor
open Go.RowKit
theorem ffrom_run (r : Nat) (w : World) : (callFunc 211 #[.int .u64 (r : Int)]).run Tryz.prog w = .ok (.value (.float .f64 r)) w:=by kernel_rfl
theorem common_digit {s : ByteArray} {c : UInt8} {l : List UInt8} (h : s.data.toList = c :: l) (hc : isD c = true) (hs : s.size <= 1000) (w : World) :
   Calls Tryz.prog 236 #[.string s,.string ⟨#[105,110,102,105,110,105,116,121]⟩] w fun e w' => e = .returned (.int .i64 0) /\ w' = w:=by
 obtain ⟨hlt,hc0,_⟩:=Aw (s:=s) (k:=0) (c:=c) (l:=l) h
 have hd : 48 <= c.toNat /\ c.toNat <= 57:=by simp [isD] at hc; exact hc
 have h0 : (0 : Int) < (s.size : Int):=by omega
 have hsz : (s.size : Int) <= 1000:=by omega
 have k1 : ¬ (65 : Int) <= (c.toNat : Int):=by omega
 have k2 : ((c.toNat : Int) != 105) = true:=by simp; omega
 have k3 : ¬ (c.toNat : Int) = 105:=by omega
 have k4 : ((⟨#[105,110,102,105,110,105,116,121]⟩ : ByteArray)[0]'(by decide)).toNat = 105:=rfl
 obtain ⟨n,hn⟩ : ∃ n : Int,min (8 : Int) (s.size : Int) = n:=⟨_,rfl⟩
 have hn0 : 0 < n:=by omega
 have hn1 : n <= 8:=by omega
 clear h hd hc
 go_enter Tryz.func236,Tryz.ntmps236
 go_wp2_with fail
 go_loop [6,7] (fun i b => i = .int .i64 0) (fun _ _ => 0)
 case atStart => rfl
 case round =>
   obtain rfl:=hrel;go_wp2;go_ret;exact ⟨rfl,rfl⟩
set_option maxRecDepth 100000 in
set_option maxHeartbeats 1600000 in
theorem special_num {s : ByteArray} {neg : Bool} {c : UInt8} {l : List UInt8} (h : s.data.toList = (if neg then [45] else []) ++ c :: l) (hc : isD c = true) (hs : s.size <= 1000) (w : World) :
   Calls Tryz.prog 201 #[.string s] w fun e w' => e = .returned (.tuple #[.float .f64 0,.int .i64 0,.bool false]) /\ w' = w:=by
 have hd : 48 <= c.toNat /\ c.toNat <= 57:=by simp [isD] at hc; exact hc
 have hsz : (s.size : Int) <= 1000:=by omega
 cases neg with
 | false =>
   have h' : s.data.toList.drop 0 = c :: l:=h;obtain ⟨hlt,hc0,_⟩:=Aw h';have h0 : (0 : Int) < (s.size : Int):=by omega
   have h00 : ((s.size : Int) == 0) = false:=beq_eq_false_iff_ne.2 (by omega);have hse : ¬ s = ByteArray.empty:=fun e => by rw [Bx,e] at hlt; exact absurd hlt (by decide)
   have k1 : ((c.toNat : Int) == 43) = false:=by simp; omega
   have k2 : ((c.toNat : Int) == 45) = false:=by simp; omega
   have k3 : ((c.toNat : Int) == 105) = false:=by simp; omega
   have k4 : ((c.toNat : Int) == 73) = false:=by simp; omega
   have k5 : ((c.toNat : Int) == 110) = false:=by simp; omega
   have k6 : ((c.toNat : Int) == 78) = false:=by simp; omega
   clear h h' hd hc
   go_enter Tryz.func201,Tryz.ntmps201
   go_wp2;exact bodyPost_ret (v:=.tuple #[.float .f64 0,.int .i64 0,.bool false]) (by simp [results,Tryz.results201,go_sem]) rfl ⟨rfl,rfl⟩
 | true =>
   have h' : s.data.toList.drop 0 = 45 :: c :: l:=h;obtain ⟨hlt,hc0,hd1⟩:=Aw h';have h0 : (0 : Int) < (s.size : Int):=by omega
   have h00 : ((s.size : Int) == 0) = false:=beq_eq_false_iff_ne.2 (by omega);have hse : ¬ s = ByteArray.empty:=fun e => by rw [Bx,e] at hlt; exact absurd hlt (by decide)
   obtain ⟨s1,hs1⟩ : ∃ s1,s.extract 1 s.size = s1:=⟨_,rfl⟩;have hs1l : s1.data.toList = c :: l:=by
     rw [<- hs1,ByteArray.data_extract,Array.toList_extract,List.extract_eq_take_drop];rw [Nat.zero_add] at hd1;rw [hd1];refine List.take_of_length_le ?_;have:=congrArg List.length hd1;rw [List.length_drop,<- Bx] at this;omega
   have hs1n : s1.size <= 1000:=by
     rw [Bx,hs1l];have:=congrArg List.length h;rw [<- Bx] at this;simp at this ⊢; omega
   have hcm:=common_digit hs1l hc hs1n w;have h1i : (1 : Int) <= (s.size : Int):=by omega
   have e45 : ((45 : UInt8).toNat : Int) = 45:=rfl;replace hcm:=Hd hcm;clear h h' hd hc hs1l hs1n hd1
   go_enter Tryz.func201,Tryz.ntmps201
   go_wp2_with fail
   refine hcm.out.mono ?_;rintro e w' ⟨rfl,hww⟩;obtain rfl:=hww.symm;clear hww;go_wp2;exact bodyPost_ret (v:=.tuple #[.float .f64 0,.int .i64 0,.bool false]) (by simp [results,Tryz.results201,go_sem]) rfl ⟨rfl,rfl⟩
end Go.Proofs.YtagkgfniihiinaaGreatDoor
namespace Go.Proofs.YtagkgfniihiinaaGreatDoor
open Ieee
theorem InI.cross {r a b a' b' : Nat} (hb : 0 < b) (hb' : 0 < b') (h : a * b' = a' * b) : InI r a b ↔ InI r a' b':=by
 rw [<- InI.scale hb',<- InI.scale (a:=a') (b:=b') hb,h,Nat.mul_comm b b']
theorem InI.self {r : Nat} : InI r (2 * rv r) 1:=by
 have h1:=Ex (show r < r + 1 by omega);constructor
 · rcases Nat.eq_zero_or_pos r with h | h
   · exact .inl h
   · right; left
     have h2:=Ex (show r - 1 < r by omega);unfold mid;rw [show r - 1 + 1 = r by omega]; omega
 · left; unfold mid; omega
theorem rung_whole {m : Nat} (hm : 0 < m) (h : m < 9007199254740992) : ∃ r,rv r = m * 2 ^ 1074 /\ r < 9218868437227405312:=by
 obtain ⟨a,b,c⟩:=E0 hm;have hl : Am m <= 53:=by
   unfold Am;rw [if_neg (by omega)];have:=(Nat.log2_lt (n:=m) (k:=53) (by omega)).2 h;omega
 refine ⟨(1021 + Am m) * 4503599627370496 + m * 2 ^ (53 - Am m),?_,?_⟩
 · have h1 : 4503599627370496 <= m * 2 ^ (53 - Am m):=by
     have : 2 ^ (Am m - 1) * 2 ^ (53 - Am m) <= m * 2 ^ (53 - Am m):=Nat.mul_le_mul_right _ a;rw [<- Nat.pow_add,show Am m - 1 + (53 - Am m) = 52 by omega] at this;exact this
   have h2 : m * 2 ^ (53 - Am m) <= 9007199254740992:=by
     have : m * 2 ^ (53 - Am m) <= 2 ^ Am m * 2 ^ (53 - Am m):=Nat.mul_le_mul_right _ (Nat.le_of_lt b);rw [<- Nat.pow_add,show Am m + (53 - Am m) = 53 by omega] at this;exact this
   rw [Ga (.inr h1) h2,Nat.mul_assoc,<- Nat.pow_add];congr 2; omega
 · have h2 : m * 2 ^ (53 - Am m) <= 9007199254740992:=by
     have : m * 2 ^ (53 - Am m) <= 2 ^ Am m * 2 ^ (53 - Am m):=Nat.mul_le_mul_right _ (Nat.le_of_lt b);rw [<- Nat.pow_add,show Am m + (53 - Am m) = 53 by omega] at this;exact this
   omega
theorem skew_lin2 (m a b : Nat) (h : m * 2 = (4 * 4503599627370496 - 1) * (2 * a * b)) : m = 18014398509481983 * a * b:=by
 rw [Nat.mul_assoc 2 a b] at h;rw [Nat.mul_assoc];generalize a * b = c at *;omega
theorem lin3 (n m X : Nat) (h : 9007199254740992 * n <= m) (h2 : m < X) : 18014398509481983 * n < 2 * X:=by omega
theorem sticky_inI {r q X n : Nat} {p : Int} (hn : 0 < n) (hq : 9007199254740992 <= q) (hx0 : q * n <= X) (hx1 : X < (q + 1) * n)
   (h : InI r ((2 * q + (decide (X ≠ q * n)).toNat) * 2 ^ p.toNat) (2 ^ (-p).toNat)) : InI r (2 * X * 2 ^ p.toNat) (n * 2 ^ (-p).toNat):=by
 by_cases he : X = q * n
 · rw [show (decide (X ≠ q * n)) = false by simp [he]] at h
   have h2 : InI r (2 * q * 2 ^ p.toNat) (2 ^ (-p).toNat):=h;refine (InI.cross (Nat.two_pow_pos _) (Nat.mul_pos hn (Nat.two_pow_pos _)) ?_).1 h2;rw [he];simp only [Nat.mul_assoc,Nat.mul_left_comm,Nat.mul_comm]
 · rw [show (decide (X ≠ q * n)) = true by simp [he]] at h
   have h2 : InI r ((2 * q + 1) * 2 ^ p.toNat) (2 ^ (-p).toNat):=h;clear h;have hX0 : q * n < X:=by omega
   obtain ⟨s1,s2,s3⟩:=Bm r;have hmid:=mid_high r;have key : ∀ z : Nat,(2 * q + 1 < 2 * z ↔ 2 * X < 2 * z * n) /\ (2 * z < 2 * q + 1 ↔ 2 * z * n < 2 * X):=fun z => by
     have e1 : 2 * z * n = 2 * (z * n):=Nat.mul_assoc _ _ _;rw [e1];refine ⟨⟨fun h => ?_,fun h => ?_⟩,⟨fun h => ?_,fun h => ?_⟩⟩
     · have : (q + 1) * n <= z * n:=Nat.mul_le_mul_right _ (by omega)
       omega
     · rcases Nat.lt_or_ge q z with h9 | h9
       · omega
       · have : z * n <= q * n:=Nat.mul_le_mul_right _ h9
         omega
     · have : z * n <= q * n:=Nat.mul_le_mul_right _ (by omega)
       omega
     · rcases Nat.lt_or_ge q z with h9 | h9
       · have : (q + 1) * n <= z * n:=Nat.mul_le_mul_right _ h9
         omega
       · omega
   have lowZ : ∀ z : Nat,0 < r -> r = 0 \/ 2 * z < 2 * q + 1 \/ (2 * z = 2 * q + 1 /\ r % 2 = 0) -> 2 * z * n < 2 * X:=fun z hr0 l => by
     rcases l with l | l | ⟨l,_⟩
     · exact absurd l (Nat.pos_iff_ne_zero.1 hr0)
     · exact (key z).2.1 l
     · exact absurd l (by clear key; omega)
   have highZ : ∀ z : Nat,2 * q + 1 < 2 * z \/ (2 * q + 1 = 2 * z /\ r % 2 = 0) -> 2 * X < 2 * z * n:=fun z l => by
     rcases l with l | ⟨l,_⟩
     · exact (key z).1.1 l
     · exact absurd l (by clear key; omega)
   rcases Int.lt_or_le p 0 with hp | hp
   · -- units are coarser than halves of the least Dc
     obtain ⟨j,hj⟩ : ∃ j : Nat,(-p).toNat = j + 1:=⟨(-p).toNat - 1,by omega⟩;rw [show p.toNat = 0 by omega,hj,Nat.pow_zero,Nat.mul_one] at h2 ⊢;have e : ∀ m : Nat,m * 2 ^ (j + 1) = 2 * (m * 2 ^ j):=fun m => by rw [Nat.pow_succ,<- Nat.mul_assoc,Nat.mul_comm]
     have e2 : ∀ m : Nat,m * (n * 2 ^ (j + 1)) = 2 * (m * 2 ^ j) * n:=fun m => by rw [Nat.mul_left_comm,e,Nat.mul_comm]
     obtain ⟨l,g⟩:=h2;rw [e] at l g;constructor
     · rcases Nat.eq_zero_or_pos r with hr0 | hr0
       · exact .inl hr0
       · right; left
         rw [e2];exact lowZ _ hr0 l
     · left
       rw [e2];exact highZ _ g
   · obtain ⟨j,rfl⟩ : ∃ j : Nat,p = j:=⟨p.toNat,by omega⟩
     rw [Int.toNat_natCast,show (-(j : Int)).toNat = 0 by omega,Nat.pow_zero,Nat.mul_one] at *;have hJ:=Nat.two_pow_pos j;have hK : j + 1 <= rK r:=by
       rcases Nat.lt_or_ge (rK r) (j + 1) with h9 | h9
       · have g:=h2.high
         have : 2 ^ rK r <= 2 ^ j:=Nat.pow_le_pow_right (by decide) (by omega);have h3 : (2 * rM r + 1) * 2 ^ rK r <= 18014398509481983 * 2 ^ j:=Nat.mul_le_mul (by omega) this;have h4 : 18014398509481985 * 2 ^ j <= (2 * q + 1) * 2 ^ j:=Nat.mul_le_mul_right _ (by omega);rw [<- hmid] at h3;omega
       · exact h9
     have hr0 : 0 < r:=by
       rcases Nat.eq_zero_or_pos r with h9 | h9
       · subst h9; exact absurd hK (by unfold rK; omega)
       · exact h9
     obtain ⟨i,hi⟩ : ∃ i,rK r = j + 1 + i:=⟨rK r - (j + 1),by omega⟩;have eK : 2 ^ rK r = 2 * 2 ^ i * 2 ^ j:=by rw [hi,<- Nat.pow_succ',<- Nat.pow_add]; congr 1; omega
     have lt1 : ∀ a b : Nat,a * 2 ^ j < b * 2 ^ j ↔ a < b:=fun a b => ⟨fun h => Nat.lt_of_mul_lt_mul_right h,fun h => Nat.mul_lt_mul_of_pos_right h hJ⟩;have eq1 : ∀ a b : Nat,a * 2 ^ j = b * 2 ^ j ↔ a = b:=fun a b => ⟨fun h => Nat.eq_of_mul_eq_mul_right hJ h,fun h => by rw [h]⟩;have eh : mid r = 2 * ((2 * rM r + 1) * 2 ^ i) * 2 ^ j:=by rw [hmid,eK]; simp only [Nat.mul_assoc,Nat.mul_left_comm]
     have hn1 : ∀ a : Nat,a * 2 ^ j * n = a * n * 2 ^ j:=fun a => Nat.mul_right_comm _ _ _;constructor
     · right
       cases hs : Bv r with
       | false =>
         have el : mid (r - 1) = 2 * ((2 * rM r - 1) * 2 ^ i) * 2 ^ j:=by rw [mid_low hr0 hs,eK]; simp only [Nat.mul_assoc,Nat.mul_left_comm]
         have l:=h2.low;simp only [Nat.mul_one] at l;rw [el] at l ⊢;rw [lt1,eq1] at l;rw [hn1,lt1];exact .inl (lowZ _ hr0 l)
       | true =>
         have h4:=mid_skew hs;rw [Bv,Bool.and_eq_true,decide_eq_true_eq,decide_eq_true_eq] at hs;have g:=h2.high;simp only [Nat.mul_one] at g;rw [eh,lt1,eq1] at g;rw [hs.1] at g h4;left;have h5 : mid (r - 1) = 18014398509481983 * 2 ^ i * 2 ^ j:=by
           rw [eK] at h4;exact skew_lin2 _ _ _ h4
         rcases Nat.eq_zero_or_pos i with hi0 | hi0
         · subst hi0
           rw [h5,Nat.pow_zero,Nat.mul_one,hn1,lt1];exact lin3 _ _ _ (Nat.mul_le_mul_right _ hq) hX0
         · obtain ⟨i',rfl⟩:=Nat.exists_eq_succ_of_ne_zero (Nat.pos_iff_ne_zero.1 hi0)
           have h6 : mid (r - 1) = 2 * (18014398509481983 * 2 ^ i') * 2 ^ j:=by
             rw [h5,Nat.pow_succ,Nat.mul_comm (2 ^ i') 2,Nat.mul_left_comm]
           have l:=h2.low;simp only [Nat.mul_one] at l;rw [h6] at l ⊢;rw [lt1,eq1] at l;rw [hn1,lt1];exact lowZ _ hr0 l
     · have g:=h2.high
       simp only [Nat.mul_one] at g;left;rw [eh] at g ⊢;rw [lt1,eq1] at g;rw [hn1,lt1];exact highZ _ g
end Go.Proofs.YtagkgfniihiinaaGreatDoor
