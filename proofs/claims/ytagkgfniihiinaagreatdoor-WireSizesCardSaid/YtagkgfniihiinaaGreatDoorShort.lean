/- Writing: that the digits of internal/strconv.shortFloat lie just where they are read back as the same number (no program in sight). -/
import Derived.Test.YtagkgfniihiinaaGreatDoorJ17
namespace Go.Proofs.YtagkgfniihiinaaGreatDoor
def Dt (x : Int) : Int := x * 78913 / 262144
def skewF (e : Int) : Int := (e * 631305 - 261663) / 2097152
def rM (r : Nat) : Nat := if r < 4503599627370496 then r else 4503599627370496 + r % 4503599627370496
def rK (r : Nat) : Nat := r / 4503599627370496 - 1
theorem Bj (r : Nat) : r = rK r * 4503599627370496 + rM r /\ (rK r = 0 \/ 4503599627370496 <= rM r) /\ rM r < 9007199254740992 := by
 unfold rK rM
 split <;> omega
theorem rK_lt {r : Nat} (h : r < 9218868437227405312) : rK r < 2046 := by unfold rK; omega
theorem Ff {r : Nat} (h : 0 < r) : 0 < rM r := by unfold rM; split <;> omega
theorem Fi (r : Nat) : rv r = rM r * 2 ^ rK r := by
 obtain ⟨h1, h2, h3⟩ := Bj r
 have := rv_at h2 (Nat.le_of_lt h3)
 rw [<- h1] at this
 exact this
def Ch (r : Nat) : Bool := decide (rM r = 4503599627370496) && decide (1 <= rK r)
def fS (r : Nat) : Nat := 64 - A3 (rM r)
def fP (r : Nat) : Int := if Ch r then -skewF (rK r - 1074) else -Dt (rK r - 1074)
def fSc (r : Nat) : Int := fS r + 1071 - lp10 (fP r) - rK r
def xM (r : Nat) : Nat := rM r * 2 ^ fS r
def xLo (r : Nat) : Nat := if Ch r then xM r - 512 else xM r - 2 ^ (fS r - 1)
def xHi (r : Nat) : Nat := xM r + 2 ^ (fS r - 1)
def usc (r x : Nat) : Nat := Cd 18446744073709551616 x (hiT (fP r)) (loT (fP r)) (fSc r).toNat
def fMin (r : Nat) : Nat := (usc r (xLo r) + rM r % 2 + 3) / 4
def fMax (r : Nat) : Nat := (usc r (xHi r) - rM r % 2) / 4
def Au (r : Nat) : Nat × Int :=
 if fMin r <= fMax r / 10 * 10 then (fMax r / 10, 1 - fP r)
 else if fMin r < fMax r then (rndU (usc r (xM r)), -fP r) else (fMin r, -fP r)
theorem mid_high (r : Nat) : mid r = (2 * rM r + 1) * 2 ^ rK r := by
 obtain ⟨h1, h2, h3⟩ := Bj r
 have h4 := rv_at (k := rK r) (m := rM r + 1) (by omega) (by omega)
 rw [<- Nat.add_assoc, <- h1] at h4
 unfold mid
 rw [h4, Fi, <- Nat.add_mul]
 congr 1; omega
theorem mid_low {r : Nat} (h : 0 < r) (hs : Ch r = false) : mid (r - 1) = (2 * rM r - 1) * 2 ^ rK r := by
 obtain ⟨h1, h2, h3⟩ := Bj r
 have hM := Ff h
 rw [Ch, Bool.and_eq_false_iff, decide_eq_false_iff_not, decide_eq_false_iff_not] at hs
 have h4 := rv_at (k := rK r) (m := rM r - 1) (by omega) (by omega)
 rw [show rK r * 4503599627370496 + (rM r - 1) = r - 1 by omega] at h4
 unfold mid
 rw [show r - 1 + 1 = r by omega, h4, Fi r, <- Nat.add_mul]
 congr 1; omega
theorem mid_skew {r : Nat} (hs : Ch r = true) : mid (r - 1) * 2 = (4 * rM r - 1) * 2 ^ rK r := by
 obtain ⟨h1, h2, h3⟩ := Bj r
 rw [Ch, Bool.and_eq_true, decide_eq_true_eq, decide_eq_true_eq] at hs
 obtain ⟨hm, hk⟩ := hs
 obtain ⟨j, hj⟩ : ∃ j, rK r = j + 1 := ⟨rK r - 1, by omega⟩
 have h4 := rv_at (k := j) (m := 9007199254740991) (by omega) (by omega)
 rw [hj, hm] at h1
 rw [show j * 4503599627370496 + 9007199254740991 = r - 1 by omega] at h4
 unfold mid
 rw [show r - 1 + 1 = r by omega, h4, Fi r, hm, hj, Nat.pow_succ]
 have : 0 < 2 ^ j := Nat.two_pow_pos j
 generalize 2 ^ j = t at *
 omega
theorem Ce {r : Nat} (h : 0 < r) : 11 <= fS r /\ fS r <= 63 /\ (1 <= rK r -> fS r = 11) /\ 9223372036854775808 <= xM r /\ xM r + 2 ^ fS r <= 18446744073709551616 := by
 obtain ⟨h1, h2, h3⟩ := Bj r
 have hM := Ff h
 obtain ⟨a, b, c⟩ := Fp hM
 have hl : A3 (rM r) <= 53 := by
   unfold A3
   rw [if_neg (by omega)]
   have := (Nat.log2_lt (n := rM r) (k := 53) (by omega)).2 h3
   omega
 obtain ⟨n0, n1⟩ := norm64 hM (by omega)
 refine ⟨by unfold fS; omega, by unfold fS; omega, ?_, n0, ?_⟩
 · intro hk
   have : ¬ A3 (rM r) < 53 := by
     intro h9
     have : 2 ^ A3 (rM r) <= 2 ^ 52 := Nat.pow_le_pow_right (by decide) (by omega)
     have : (2 : Nat) ^ 52 = 4503599627370496 := by decide
     omega
   unfold fS; omega
 · have : (rM r + 1) * 2 ^ fS r <= 2 ^ A3 (rM r) * 2 ^ fS r := Nat.mul_le_mul_right _ b
   rw [<- Nat.pow_add, show A3 (rM r) + fS r = 64 by unfold fS; omega, Nat.add_mul, Nat.one_mul] at this
   exact this
theorem Dv {s : Nat} (h : 11 <= s) : 2 ^ s = 2 * 2 ^ (s - 1) /\ 2 ^ (s - 1) = 1024 * 2 ^ (s - 11) := by
 refine ⟨?_, ?_⟩
 · rw [<- Nat.pow_succ']; congr 1; omega
 · rw [show (1024 : Nat) = 2 ^ 10 by decide, <- Nat.pow_add]; congr 1; omega
theorem x_spec {r : Nat} (h : 0 < r) : (4611686018427387904 <= xLo r /\ xLo r < 18446744073709551616 /\ xLo r % 512 = 0) /\ (4611686018427387904 <= xM r /\ xM r < 18446744073709551616 /\ xM r % 512 = 0) /\
   (4611686018427387904 <= xHi r /\ xHi r < 18446744073709551616 /\ xHi r % 512 = 0) := by
 obtain ⟨s0, s1, s2, s3, s4⟩ := Ce h
 obtain ⟨p0, p1⟩ := Dv s0
 have e1 : xM r = 2048 * (rM r * 2 ^ (fS r - 11)) := by
   unfold xM; rw [p0, p1]
   generalize 2 ^ (fS r - 11) = v
   rw [show 2 * (1024 * v) = 2048 * v by omega, Nat.mul_left_comm]
 have l1 : 2 ^ (fS r - 1) <= 2 ^ 62 := Nat.pow_le_pow_right (by decide) (by omega)
 have e62 : (2 : Nat) ^ 62 = 4611686018427387904 := by decide
 have hp := Nat.two_pow_pos (fS r - 11)
 unfold xLo xHi
 generalize rM r * 2 ^ (fS r - 11) = w at *
 generalize 2 ^ (fS r - 1) = t at *
 generalize 2 ^ (fS r - 11) = v at *
 generalize 2 ^ fS r = u at *
 split <;> omega
theorem skew_lin (t : Nat) : (4503599627370496 * 2048 - 512) * t = (4 * 4503599627370496 - 1) * t * 512 := by omega
theorem xLo_mid {r : Nat} (h : 0 < r) : xLo r * 2 ^ rK r = mid (r - 1) * 2 ^ (fS r - 1) := by
 obtain ⟨s0, s1, s2, s3, s4⟩ := Ce h
 obtain ⟨p0, p1⟩ := Dv s0
 have hM := Ff h
 unfold xLo
 cases hs : Ch r with
 | false =>
   rw [mid_low h hs]
   simp only [Bool.false_eq_true, if_false]
   have e : xM r - 2 ^ (fS r - 1) = (2 * rM r - 1) * 2 ^ (fS r - 1) := by
     unfold xM
     rw [p0, Nat.sub_mul, Nat.one_mul, Nat.mul_comm 2 (rM r), Nat.mul_assoc]
   rw [e, Nat.mul_right_comm]
 | true =>
   have h2 := mid_skew hs
   rw [Ch, Bool.and_eq_true, decide_eq_true_eq, decide_eq_true_eq] at hs
   simp only [if_true]
   have h3 := s2 hs.2
   have h4 : xM r = 4503599627370496 * 2048 := by unfold xM; rw [h3, hs.1]
   have h5 : (2 : Nat) ^ (11 - 1) = 2 * 512 := by decide
   rw [h4, h3, h5, <- Nat.mul_assoc, h2, hs.1]
   exact skew_lin _
theorem xHi_mid {r : Nat} (h : 0 < r) : xHi r * 2 ^ rK r = mid r * 2 ^ (fS r - 1) := by
 obtain ⟨s0, s1, s2, s3, s4⟩ := Ce h
 obtain ⟨p0, p1⟩ := Dv s0
 rw [mid_high]
 unfold xHi xM
 rw [p0, <- Nat.mul_assoc, Nat.mul_comm (rM r) 2, Nat.mul_right_comm (2 * rM r + 1), Nat.add_mul (2 * rM r) 1, Nat.one_mul]
def allN : Nat -> (Nat -> Bool) -> Bool
 | 0, _ => true
 | n + 1, f => f n && allN n f
theorem D1 {f : Nat -> Bool} : ∀ {n : Nat}, allN n f = true -> ∀ k, k < n -> f k = true
 | 0, _, k, hk => by omega
 | n + 1, h, k, hk => by
   rw [allN, Bool.and_eq_true] at h
   rcases Nat.eq_or_lt_of_le (Nat.le_of_lt_succ hk) with h1 | h1
   · rw [h1]; exact h.1
   · exact D1 h.2 k h1
def rngOk (k : Nat) (p : Int) : Bool := decide (-348 <= p) && decide (p <= 347) && decide (5 <= 1082 - lp10 p - k) && decide (1082 - lp10 p - k <= 8)
theorem rng_l : allN 2046 (fun k => rngOk k (-Dt (k - 1074))) = true := by decide +kernel
theorem rng_s : allN 2046 (fun k => decide (k = 0) || rngOk k (-skewF (k - 1074))) = true := by decide +kernel
theorem C1 {r : Nat} (h : 0 < r) (hr : r < 9218868437227405312) : -348 <= fP r /\ fP r <= 347 /\ 4 <= fSc r /\ fSc r < 64 := by
 obtain ⟨s0, s1, s2, _, _⟩ := Ce h
 have hk := rK_lt hr
 unfold fSc
 cases hs : Ch r with
 | false =>
   have e : fP r = -Dt (rK r - 1074) := by unfold fP; rw [hs]; rfl
   have := D1 rng_l _ hk
   rw [<- e] at this
   simp only [rngOk, Bool.and_eq_true, decide_eq_true_eq] at this
   obtain ⟨⟨⟨h1, h2⟩, h3⟩, h4⟩ := this
   rcases Nat.eq_zero_or_pos (rK r) with h0 | h0
   · have e3 : fP r = 324 := by rw [e, h0]; decide
     have e2 : lp10 324 = 1076 := by decide
     rw [e3, e2]
     omega
   · have := s2 h0
     omega
 | true =>
   have hs' := hs
   rw [Ch, Bool.and_eq_true, decide_eq_true_eq, decide_eq_true_eq] at hs'
   have e : fP r = -skewF (rK r - 1074) := by unfold fP; rw [hs]; rfl
   have := D1 rng_s _ hk
   rw [<- e] at this
   simp only [rngOk, Bool.or_eq_true, Bool.and_eq_true, decide_eq_true_eq] at this
   have := s2 hs'.2
   omega
theorem F6 {E y A m c : Nat} (hE : 0 < E) (hA : 0 < A) (q : 4 * E * m = y * A) : (y <= 4 * c * E ↔ m <= c * A) /\ (y < 4 * c * E ↔ m < c * A) /\ (4 * c * E <= y ↔ c * A <= m) /\ (4 * c * E < y ↔ c * A < m) := by
 have hE4 : 0 < 4 * E := by omega
 have e : 4 * c * E * A = 4 * E * (c * A) := by rw [Nat.mul_right_comm 4 c E, Nat.mul_assoc (4 * E)]
 have l1 : y < 4 * c * E ↔ m < c * A := by
   constructor
   · intro h
     refine Nat.lt_of_mul_lt_mul_left (a := 4 * E) ?_
     rw [q, <- e]
     exact Nat.mul_lt_mul_of_pos_right h hA
   · intro h
     refine Nat.lt_of_mul_lt_mul_right (a := A) ?_
     rw [<- q, e]
     exact Nat.mul_lt_mul_of_pos_left h hE4
 have l2 : 4 * c * E < y ↔ c * A < m := by
   constructor
   · intro h
     refine Nat.lt_of_mul_lt_mul_left (a := 4 * E) ?_
     rw [q, <- e]
     exact Nat.mul_lt_mul_of_pos_right h hA
   · intro h
     refine Nat.lt_of_mul_lt_mul_right (a := A) ?_
     rw [<- q, e]
     exact Nat.mul_lt_mul_of_pos_left h hE4
 refine ⟨?_, l1, ?_, l2⟩
 · rw [<- Nat.not_lt, l2, Nat.not_lt]
 · rw [<- Nat.not_lt, l1, Nat.not_lt]
theorem rel2 {x μ k s sc : Nat} {p : Int} (hs : 1 <= s) (hx : x * 2 ^ k = μ * 2 ^ (s - 1)) (hsc : (sc : Int) = s + 1071 - lp10 p - k) :
   4 * (tD p * (18446744073709551616 * 18446744073709551616) * 2 ^ sc) * (μ * Av (-p)) = x * tN p * (10 ^ (-p).toNat * 2 ^ hp) := by
 refine Nat.eq_of_mul_eq_mul_right (Nat.two_pow_pos k) ?_
 unfold Av tN tD
 rw [Int.neg_neg]
 have e : 4 * 2 ^ (lp10 p - 127).toNat * 2 ^ 128 * 2 ^ sc * 2 ^ k = 2 ^ (s - 1) * 2 ^ (127 - lp10 p).toNat * 2 ^ hp := by
   rw [show (4 : Nat) = 2 ^ 2 by decide, <- Nat.pow_add, <- Nat.pow_add, <- Nat.pow_add, <- Nat.pow_add, <- Nat.pow_add, <- Nat.pow_add]
   congr 1
   have : hp = 1075 := rfl
   omega
 rw [show (18446744073709551616 * 18446744073709551616 : Nat) = 2 ^ 128 by decide]
 generalize 10 ^ (-p).toNat = b at *
 generalize 10 ^ p.toNat = a at *
 generalize 2 ^ hp = t at *
 generalize 2 ^ (lp10 p - 127).toNat = u at *
 generalize 2 ^ (127 - lp10 p).toNat = y at *
 generalize 2 ^ 128 = v at *
 generalize 2 ^ sc = S at *
 generalize 2 ^ (s - 1) = z at *
 generalize 2 ^ k = K at *
 have e1 : 4 * (b * u * v * S) * (μ * a) * K = μ * a * b * (4 * u * v * S * K) := by simp only [Nat.mul_assoc, Nat.mul_left_comm, Nat.mul_comm]
 have e2 : x * (a * y) * (b * t) * K = x * K * (a * y * (b * t)) := by simp only [Nat.mul_assoc, Nat.mul_left_comm, Nat.mul_comm]
 rw [e1, e, e2, hx]
 simp only [Nat.mul_assoc, Nat.mul_left_comm, Nat.mul_comm]
theorem E0 {r x : Nat} (h : 0 < r) (hr : r < 9218868437227405312) (hx0 : 4611686018427387904 <= x) (hx1 : x < 18446744073709551616) (hx9 : x % 512 = 0) :
   usc r x = unr (x * tN (fP r)) (tD (fP r) * (18446744073709551616 * 18446744073709551616) * 2 ^ (fSc r).toNat) := by
 obtain ⟨p0, p1, p2, p3⟩ := C1 h hr
 exact uscale_f p0 p1 (by omega) hx0 hx1 hx9
theorem E2 {r : Nat} (h : 0 < r) (hr : r < 9218868437227405312) (c : Nat) : InI r (decA c (-fP r)) (Av (-fP r)) ↔ fMin r <= c /\ c <= fMax r := by
 obtain ⟨p0, p1, p2, p3⟩ := C1 h hr
 obtain ⟨s0, s1, s2, _, _⟩ := Ce h
 obtain ⟨⟨l0, l1, l9⟩, _, ⟨g0, g1, g9⟩⟩ := x_spec h
 obtain ⟨sc, hsc⟩ : ∃ n : Nat, fSc r = n := ⟨(fSc r).toNat, by omega⟩
 have q0 := rel2 (sc := sc) (p := fP r) (by omega) (xLo_mid h) (by rw [<- hsc]; rfl)
 have q1 := rel2 (sc := sc) (p := fP r) (by omega) (xHi_mid h) (by rw [<- hsc]; rfl)
 have u0 := E0 h hr l0 l1 l9
 have u1 := E0 h hr g0 g1 g9
 rw [hsc, Int.toNat_natCast] at u0 u1
 have hE : 0 < tD (fP r) * (18446744073709551616 * 18446744073709551616) * 2 ^ sc := Nat.mul_pos (Nat.mul_pos (D8 _) (by decide)) (Nat.two_pow_pos sc)
 have hA : 0 < 10 ^ (-fP r).toNat * 2 ^ hp := Nat.mul_pos (Nat.pow_pos (by decide)) (Nat.two_pow_pos hp)
 have ho : rM r % 2 <= 1 := by omega
 have hpar : r % 2 = rM r % 2 := by have := (Bj r).1; omega
 have hmid : 0 < mid r := by unfold mid; have := F4 (show r < r + 1 by omega); omega
 have hb : 0 < Av (-fP r) := Nat.pow_pos (by decide)
 have hx1 : 0 < xHi r * tN (fP r) := Nat.mul_pos (by omega) (tN_pos _)
 unfold fMin fMax
 rw [u0, u1]
 have hdA : decA c (-fP r) = c * (10 ^ (-fP r).toNat * 2 ^ hp) := by unfold decA; rw [Nat.mul_assoc]
 rw [hdA]
 generalize tD (fP r) * (18446744073709551616 * 18446744073709551616) * 2 ^ sc = E at *
 generalize xLo r * tN (fP r) = y0 at *
 generalize xHi r * tN (fP r) = y1 at *
 generalize 10 ^ (-fP r).toNat * 2 ^ hp = A at *
 generalize Av (-fP r) = b at *
 obtain ⟨k0, k1, _, _⟩ := F6 (c := c) hE hA q0
 obtain ⟨_, _, k2, k3⟩ := F6 (c := c) hE hA q1
 have hu1 : 1 <= unr y1 E := by
   rcases Nat.eq_zero_or_pos (unr y1 E) with h9 | h9
   · have := (C8 (y := y1) hE).1 (by rw [h9])
     rw [h9] at this; omega
   · exact h9
 rw [Ge hE ho, Fy hE ho hu1]
 rw [show InI r (c * A) b ↔ (r = 0 \/ mid (r - 1) * b < c * A \/ (mid (r - 1) * b = c * A /\ r % 2 = 0)) /\ (c * A < mid r * b \/ (c * A = mid r * b /\ r % 2 = 0)) from ⟨fun h => ⟨h.low, h.high⟩, fun h => ⟨h.1, h.2⟩⟩]
 generalize 4 * c * E = z at *
 generalize c * A = v at *
 generalize mid (r - 1) * b = m0 at *
 generalize mid r * b = m1 at *
 constructor
 · intro ⟨a1, a2⟩
   omega
 · intro ⟨a1, a2⟩
   constructor
   · omega
   · omega
def wOk (k : Nat) (p : Int) : Bool := decide (tD p * 2 ^ (1212 - lp10 p - k).toNat <= 2048 * tN p) && decide (2048 * tN p < 10 * (tD p * 2 ^ (1212 - lp10 p - k).toNat))
theorem w_l : allN 2046 (fun k => wOk k (-Dt (k - 1074))) = true := by decide +kernel
theorem w_spec {r : Nat} (h : 0 < r) (hr : r < 9218868437227405312) (hs : Ch r = false) :
   4 * (tD (fP r) * (18446744073709551616 * 18446744073709551616) * 2 ^ (fSc r).toNat) <= 2 ^ fS r * tN (fP r) /\
   2 ^ fS r * tN (fP r) < 40 * (tD (fP r) * (18446744073709551616 * 18446744073709551616) * 2 ^ (fSc r).toNat) := by
 obtain ⟨s0, s1, s2, _, _⟩ := Ce h
 obtain ⟨p0, p1, p2, p3⟩ := C1 h hr
 have hw := D1 w_l _ (rK_lt hr)
 have e : fP r = -Dt (rK r - 1074) := by unfold fP; rw [hs]; rfl
 rw [<- e] at hw
 simp only [wOk, Bool.and_eq_true, decide_eq_true_eq] at hw
 obtain ⟨w0, w1⟩ := hw
 have hsc : 4 * (tD (fP r) * (18446744073709551616 * 18446744073709551616) * 2 ^ (fSc r).toNat) = tD (fP r) * 2 ^ (1212 - lp10 (fP r) - rK r).toNat * 2 ^ (fS r - 11) := by
   rw [show (18446744073709551616 * 18446744073709551616 : Nat) = 2 ^ 128 by decide, Nat.mul_assoc (tD (fP r)), Nat.mul_assoc (tD (fP r)), Nat.mul_left_comm, show (4 : Nat) = 2 ^ 2 by decide, <- Nat.pow_add, <- Nat.pow_add, <- Nat.pow_add]
   congr 2
   unfold fSc at *
   rcases Nat.eq_zero_or_pos (rK r) with h0 | h0
   · omega
   · have := s2 h0; omega
 have hS : 2 ^ fS r = 2048 * 2 ^ (fS r - 11) := by rw [show (2048 : Nat) = 2 ^ 11 by decide, <- Nat.pow_add]; congr 1; omega
 have hT := Nat.two_pow_pos (fS r - 11)
 rw [hS, show 40 * (tD (fP r) * (18446744073709551616 * 18446744073709551616) * 2 ^ (fSc r).toNat) = 10 * (4 * (tD (fP r) * (18446744073709551616 * 18446744073709551616) * 2 ^ (fSc r).toNat)) by rw [<- Nat.mul_assoc 10 4], hsc]
 generalize tD (fP r) * 2 ^ (1212 - lp10 (fP r) - rK r).toNat = D at *
 generalize tN (fP r) = N at *
 generalize 2 ^ (fS r - 11) = T at *
 constructor
 · rw [Nat.mul_right_comm]; exact Nat.mul_le_mul_right _ w0
 · rw [Nat.mul_right_comm, <- Nat.mul_assoc]; exact Nat.mul_lt_mul_of_pos_right w1 hT
theorem near_in {r : Nat} (h : 0 < r) (hr : r < 9218868437227405312) (hs : Ch r = false) : fMin r <= rndU (usc r (xM r)) /\ rndU (usc r (xM r)) <= fMax r := by
 obtain ⟨s0, s1, s2, _, _⟩ := Ce h
 obtain ⟨⟨l0, l1, l9⟩, ⟨m0, m1, m9⟩, ⟨g0, g1, g9⟩⟩ := x_spec h
 obtain ⟨w0, w1⟩ := w_spec h hr hs
 have hE : 0 < tD (fP r) * (18446744073709551616 * 18446744073709551616) * 2 ^ (fSc r).toNat := Nat.mul_pos (Nat.mul_pos (D8 _) (by decide)) (Nat.two_pow_pos _)
 have hx1 : 0 < xHi r * tN (fP r) := Nat.mul_pos (by omega) (tN_pos _)
 have eM : xM r * tN (fP r) = rM r * (2 ^ fS r * tN (fP r)) := by unfold xM; rw [Nat.mul_assoc]
 obtain ⟨p0, _⟩ := Dv s0
 have eL : xLo r * tN (fP r) + 2 ^ (fS r - 1) * tN (fP r) = xM r * tN (fP r) := by
   rw [<- Nat.add_mul]
   congr 1
   have : xLo r = xM r - 2 ^ (fS r - 1) := by unfold xLo; rw [hs]; rfl
   omega
 have eH : xHi r * tN (fP r) = xM r * tN (fP r) + 2 ^ (fS r - 1) * tN (fP r) := by rw [<- Nat.add_mul]; rfl
 have eW : 2 ^ fS r * tN (fP r) = 2 * (2 ^ (fS r - 1) * tN (fP r)) := by rw [p0, Nat.mul_assoc]
 have ho : rM r % 2 <= 1 := by omega
 unfold fMin fMax
 rw [E0 h hr l0 l1 l9, E0 h hr g0 g1 g9, E0 h hr m0 m1 m9]
 generalize tD (fP r) * (18446744073709551616 * 18446744073709551616) * 2 ^ (fSc r).toNat = E at *
 generalize xLo r * tN (fP r) = y0 at *
 generalize xHi r * tN (fP r) = y1 at *
 generalize xM r * tN (fP r) = y at *
 generalize 2 ^ (fS r - 1) * tN (fP r) = g at *
 generalize 2 ^ fS r * tN (fP r) = W at *
 have hu1 : 1 <= unr y1 E := by
   rcases Nat.eq_zero_or_pos (unr y1 E) with h9 | h9
   · have := (C8 (y := y1) hE).1 (by rw [h9])
     rw [h9] at this; omega
   · exact h9
 rw [Ge hE ho, Fy hE ho hu1]
 obtain ⟨r0, r1, r2⟩ := rndU_spec (y := y) hE
 generalize rndU (unr y E) = c at *
 have ec : (4 * c + 2) * E = 4 * c * E + 2 * E := Nat.add_mul _ _ _
 rcases Nat.eq_or_lt_of_le w0 with hw | hw
 · -- just one unit wide: then the number itself is whole
   rw [<- hw, Nat.mul_left_comm, <- Nat.mul_assoc] at eM
   have hc : c = rM r := by
     have a1 : rM r <= c := by
       rcases Nat.lt_or_ge c (rM r) with h9 | h9
       · have : (4 * c + 4) * E <= 4 * rM r * E := Nat.mul_le_mul_right _ (by omega)
         rw [Nat.add_mul] at this; omega
       · exact h9
     have a2 : c <= rM r := by
       rcases Nat.lt_or_ge (rM r) c with h9 | h9
       · have : (4 * rM r + 4) * E <= 4 * c * E := Nat.mul_le_mul_right _ (by omega)
         rw [Nat.add_mul] at this; omega
       · exact h9
     omega
   subst hc
   omega
 · omega
def inIB (r a b : Nat) : Bool := (decide (r = 0) || decide (mid (r - 1) * b < a) || (decide (mid (r - 1) * b = a) && decide (r % 2 = 0))) && (decide (a < mid r * b) || (decide (a = mid r * b) && decide (r % 2 = 0)))
theorem inIB_ok {r a b : Nat} (h : inIB r a b = true) : InI r a b := by
 simp only [inIB, Bool.and_eq_true, Bool.or_eq_true, decide_eq_true_eq] at h
 exact ⟨by omega, by omega⟩
theorem skew_ok : allN 2045 (fun j => inIB ((j + 2) * 4503599627370496) (decA (Au ((j + 2) * 4503599627370496)).1 (Au ((j + 2) * 4503599627370496)).2) (Av (Au ((j + 2) * 4503599627370496)).2)) = true := by decide +kernel
theorem decA_ten (d : Nat) (p : Int) (r : Nat) : InI r (decA (d * 10) p) (Av p) ↔ InI r (decA d (1 + p)) (Av (1 + p)) := by
 unfold decA Av
 rcases Int.lt_or_le p 0 with h | h
 · -- a tenth less below
   rw [show p.toNat = 0 by omega, show (1 + p).toNat = 0 by omega, show (-p).toNat = (-(1 + p)).toNat + 1 by omega, Nat.pow_succ, Nat.pow_zero, Nat.mul_one, Nat.mul_one, Nat.mul_right_comm]
   exact InI.scale (by decide)
 · rw [show (-p).toNat = 0 by omega, show (-(1 + p)).toNat = 0 by omega, show (1 + p).toNat = p.toNat + 1 by omega, Nat.pow_succ, Nat.mul_comm (10 ^ p.toNat) 10, Nat.mul_assoc d 10]
theorem short_ok {r : Nat} (h : 0 < r) (hr : r < 9218868437227405312) : InI r (decA (Au r).1 (Au r).2) (Av (Au r).2) := by
 cases hs : Ch r with
 | true =>
   have hs' := hs
   rw [Ch, Bool.and_eq_true, decide_eq_true_eq, decide_eq_true_eq] at hs'
   have h1 := (Bj r).1
   have hk := rK_lt hr
   obtain ⟨j, hj⟩ : ∃ j, rK r = j + 1 := ⟨rK r - 1, by omega⟩
   have hr' : r = (j + 2) * 4503599627370496 := by omega
   have := D1 skew_ok j (by omega)
   rw [<- hr'] at this
   exact inIB_ok this
 | false =>
   obtain ⟨n0, n1⟩ := near_in h hr hs
   unfold Au
   by_cases h1 : fMin r <= fMax r / 10 * 10
   · rw [if_pos h1]
     show InI r (decA (fMax r / 10) (1 - fP r)) (Av (1 - fP r))
     rw [Int.sub_eq_add_neg, <- decA_ten, E2 h hr]
     omega
   · rw [if_neg h1]
     by_cases h2 : fMin r < fMax r
     · rw [if_pos h2]
       exact (E2 h hr _).2 ⟨n0, n1⟩
     · rw [if_neg h2]
       exact (E2 h hr _).2 ⟨Nat.le_refl _, by omega⟩
end Go.Proofs.YtagkgfniihiinaaGreatDoor
