/- The texts of floats, as bytes: sign, digits, exponent (no program in sight). -/
import Derived.Test.YtagkgfniihiinaaGreatDoorShort
import Derived.Lib.ItoaNum
namespace Go.Proofs.YtagkgfniihiinaaGreatDoor
def dg8 (n : Nat) : UInt8 := UInt8.ofNat (48 + n)
def expL (x : Int) : List UInt8 :=
 (if x < 0 then 45 else 43) :: (if x.natAbs < 10 then [48, dg8 x.natAbs] else if x.natAbs < 100 then [dg8 (x.natAbs / 10), dg8 (x.natAbs % 10)] else [dg8 (x.natAbs / 100), dg8 (x.natAbs / 10 % 10), dg8 (x.natAbs % 10)])
def A4 (neg : Bool) : List UInt8 := if neg then [45] else []
def effE (neg : Bool) (D : List UInt8) (dp : Int) : List UInt8 :=
 A4 neg ++ [D.headD 48] ++ (if 1 < D.length then 46 :: D.tail else []) ++ [101] ++ expL (if D = [] then 0 else dp - 1)
def effF (neg : Bool) (D : List UInt8) (dp : Int) : List UInt8 :=
 A4 neg ++ (if 0 < dp then D.take dp.toNat ++ List.replicate (dp.toNat - D.length) 48 else [48]) ++
   (if dp < D.length then 46 :: (List.replicate (-dp).toNat 48 ++ D.drop dp.toNat) else [])
def A2 (l : List UInt8) : List UInt8 := (l.reverse.dropWhile (· == 48)).reverse
def digL (r : Nat) : List UInt8 := if r = 0 then [] else A2 (Lib.decDigits (Au r).1)
def A1 (r : Nat) : Int := if r = 0 then 0 else (Lib.nDigits (Au r).1 : Int) + (Au r).2
def Bd (b : Nat) : List UInt8 :=
 if nanF b then [110, 97, 110]
 else if b % 9223372036854775808 = 9218868437227405312 then A4 (decide (9223372036854775808 <= b)) ++ [105, 110, 102]
 else
   let D := digL (b % 9223372036854775808)
   let dp := A1 (b % 9223372036854775808)
   let x := if D = [] then 0 else dp - 1
   if x < -4 \/ 21 <= x then effE (decide (9223372036854775808 <= b)) D dp else effF (decide (9223372036854775808 <= b)) D dp
def midL (l : List UInt8) (prec : Nat) : List UInt8 := if 0 < prec then 46 :: (l.tail ++ List.replicate (prec - (l.length - 1)) 48) else []
theorem midL_pos {l : List UInt8} {prec : Nat} (h : 0 < prec) : midL l prec = 46 :: (l.tail ++ List.replicate (prec - (l.length - 1)) 48) := if_pos h
theorem midL_neg {l : List UInt8} {prec : Nat} (h : ¬ 0 < prec) : midL l prec = [] := if_neg h
def effP (neg : Bool) (D : List UInt8) (dp : Int) (prec : Nat) : List UInt8 :=
 A4 neg ++ [D.headD 48] ++ midL D prec ++ [101] ++ expL (if D.length = 0 then 0 else dp - 1)
theorem effP_short (neg : Bool) (D : List UInt8) (dp : Int) : effP neg D dp (D.length - 1) = effE neg D dp := by
 unfold effP effE midL
 have e : (D.length = 0) = (D = []) := by rw [List.length_eq_zero_iff]
 simp only [Nat.sub_self, List.replicate_zero, List.append_nil, e]
 by_cases h : 1 < D.length
 · rw [if_pos h, if_pos (by omega)]
 · rw [if_neg h, if_neg (by omega)]
theorem expL_len (x : Int) : 3 <= (expL x).length /\ (expL x).length <= 4 := by
 have key : ∀ (b : UInt8) (l : List UInt8), 2 <= l.length /\ l.length <= 3 -> 3 <= (b :: l).length /\ (b :: l).length <= 4 := fun b l h => by rw [List.length_cons]; omega
 unfold expL
 refine key _ _ ?_
 split
 · exact ⟨Nat.le_refl _, by simp⟩
 · split <;> simp
def dv (c : UInt8) : Nat := c.toNat - 48
def isD (c : UInt8) : Bool := decide (48 <= c.toNat) && decide (c.toNat <= 57)
def valD (l : List UInt8) : Nat := l.foldl (fun a c => a * 10 + dv c) 0
theorem Fx (l : List UInt8) : ∀ a : Nat, l.foldl (fun a c => a * 10 + dv c) a = a * 10 ^ l.length + valD l := by
 induction l with
 | nil => intro a; simp [valD]
 | cons c l ih =>
   intro a
   have e : valD (c :: l) = dv c * 10 ^ l.length + valD l := by
     show l.foldl (fun a c => a * 10 + dv c) (0 * 10 + dv c) = _
     rw [ih, Nat.zero_mul, Nat.zero_add]
   rw [List.foldl_cons, ih, e, List.length_cons, Nat.pow_succ, Nat.add_mul, Nat.mul_assoc, Nat.mul_comm 10 (10 ^ l.length)]
   omega
theorem C3 (a b : List UInt8) : valD (a ++ b) = valD a * 10 ^ b.length + valD b := by
 rw [valD, List.foldl_append, Fx]; rfl
theorem valD_snoc (a : List UInt8) (c : UInt8) : valD (a ++ [c]) = valD a * 10 + dv c := by
 rw [C3]; simp [valD]
theorem Ee (c : UInt8) (l : List UInt8) : valD (c :: l) = dv c * 10 ^ l.length + valD l := by
 rw [valD, List.foldl_cons, Fx]; simp
theorem dv_le {c : UInt8} (h : isD c = true) : dv c <= 9 := by simp [isD] at h; unfold dv; omega
theorem valD_lt : ∀ {l : List UInt8}, (∀ c ∈ l, isD c = true) -> valD l < 10 ^ l.length
 | [], _ => by simp [valD]
 | c :: l, h => by
   have h1 := valD_lt (l := l) (fun x hx => h x (List.mem_cons_of_mem _ hx))
   have h2 := dv_le (h c (List.mem_cons_self ..))
   rw [Ee, List.length_cons, Nat.pow_succ]
   have : dv c * 10 ^ l.length <= 9 * 10 ^ l.length := Nat.mul_le_mul_right _ h2
   omega
theorem Ds : ∀ {l : List UInt8}, (∀ c ∈ l, c = 48) -> valD l = 0
 | [], _ => rfl
 | c :: l, h => by
   rw [Ee, h c (List.mem_cons_self ..), Ds (l := l) (fun x hx => h x (List.mem_cons_of_mem _ hx))]
   simp [dv]
def Da (l : List UInt8) : List UInt8 := l.dropWhile (· == 48)
theorem stripL_mem {l : List UInt8} {c : UInt8} (h : c ∈ Da l) : c ∈ l := (List.dropWhile_sublist _).subset h
def ndF (l : List UInt8) : Nat := (Da l).length
def Cn (l : List UInt8) : Nat := valD ((Da l).take 19)
def truncF (l : List UInt8) : Bool := ((Da l).drop 19).any (· != 48)
theorem mantF_lt {l : List UInt8} (hd : ∀ c ∈ l, isD c = true) : Cn l < 10 ^ (min 19 (ndF l)) := by
 unfold Cn ndF
 have := valD_lt (l := (Da l).take 19) (fun c hc => hd c (stripL_mem (List.mem_of_mem_take hc)))
 rwa [List.length_take] at this
theorem mantF_lt19 {l : List UInt8} (hd : ∀ c ∈ l, isD c = true) : Cn l < 10000000000000000000 :=
 Nat.lt_of_lt_of_le (mantF_lt hd) (Nat.pow_le_pow_right (n := 10) (by decide) (Nat.min_le_left 19 _))
def capE (l : List UInt8) : Nat := l.foldl (fun e c => if e < 10000 then e * 10 + dv c else e) 0
end Go.Proofs.YtagkgfniihiinaaGreatDoor
