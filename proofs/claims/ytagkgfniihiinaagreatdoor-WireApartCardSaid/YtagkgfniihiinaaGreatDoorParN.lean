/- Reading: that internal/strconv.parseFloat64 gives the rung that is nearest (no program in sight). -/
import Derived.Test.YtagkgfniihiinaaGreatDoorRnd
namespace Go.Proofs.YtagkgfniihiinaaGreatDoor

theorem unr_half {y E : Nat} (hE : 0 < E) : stick (unr y E / 2) (decide (unr y E % 2 = 1)) = unr y (2 * E) := by
  have h := Nat.div_add_mod y E
  have h2 := Nat.mod_lt y hE
  have h3 : y / (2 * E) = y / E / 2 := by rw [Nat.mul_comm, Nat.div_div_eq_div_mul]
  have h4 := Nat.div_add_mod y (2 * E)
  rw [h3] at h4
  obtain ⟨q, hq⟩ : ∃ q, q = y / E := ⟨_, rfl⟩
  obtain ⟨t, ht⟩ : ∃ t, t = y % E := ⟨_, rfl⟩
  obtain ⟨v, hv⟩ : ∃ v, v = y % (2 * E) := ⟨_, rfl⟩
  unfold unr
  rw [h3, ← hq, ← ht, ← hv]
  rw [← hq, ← ht] at h
  rw [← hq, ← hv] at h4
  rw [← ht] at h2
  have e1 : 2 * E * (q / 2) = E * (q / 2 * 2) := by rw [Nat.mul_comm 2 E, Nat.mul_assoc, Nat.mul_comm 2]
  have e2 : E * q = E * (q / 2 * 2) + E * (q % 2) := by rw [← Nat.mul_add]; congr 1; omega
  have key : v = E * (q % 2) + t := by omega
  clear hq ht hv h h4 h3 e1 e2
  by_cases h0 : t = 0
  · subst h0
    rw [show decide ((0 : Nat) ≠ 0) = false by rfl]
    show stick (q / 2) (decide (q % 2 = 1)) = _
    rcases Nat.mod_two_eq_zero_or_one q with h | h
    · rw [h] at key ⊢
      rw [show v = 0 by omega]; rfl
    · rw [h] at key ⊢
      rw [show decide (v ≠ 0) = true by rw [decide_eq_true_iff]; omega]; rfl
  · rw [show decide (t ≠ 0) = true by rw [decide_eq_true_iff]; exact h0, show decide (v ≠ 0) = true by rw [decide_eq_true_iff]; omega]
    show stick ((q / 2 * 2 + 1) / 2) (decide ((q / 2 * 2 + 1) % 2 = 1)) = _
    rw [show (q / 2 * 2 + 1) / 2 = q / 2 by omega, show (q / 2 * 2 + 1) % 2 = 1 by omega]; rfl

/-- How many bits. -/
def len64 (d : Nat) : Nat := if d = 0 then 0 else d.log2 + 1
theorem len64_spec {d : Nat} (h : 0 < d) : 2 ^ (len64 d - 1) ≤ d ∧ d < 2 ^ len64 d ∧ 1 ≤ len64 d := by
  unfold len64
  rw [if_neg (by omega), Nat.add_sub_cancel]
  exact ⟨Nat.log2_self_le (by omega), Nat.lt_log2_self, by omega⟩
theorem len64_le {d : Nat} (h : d < 18446744073709551616) : len64 d ≤ 64 := by
  unfold len64
  split
  · omega
  · have := (Nat.log2_lt (n := d) (k := 64) (by omega)).2 h
    omega
/-- Moved to the left as far as it goes. -/
theorem norm64 {d : Nat} (h : 0 < d) (h2 : d < 18446744073709551616) : 9223372036854775808 ≤ d * 2 ^ (64 - len64 d) ∧ d * 2 ^ (64 - len64 d) < 18446744073709551616 := by
  obtain ⟨a, b, c⟩ := len64_spec h
  have l := len64_le h2
  constructor
  · have : 2 ^ (len64 d - 1) * 2 ^ (64 - len64 d) ≤ d * 2 ^ (64 - len64 d) := Nat.mul_le_mul_right _ a
    rw [← Nat.pow_add, show len64 d - 1 + (64 - len64 d) = 63 by omega] at this
    exact this
  · have : d * 2 ^ (64 - len64 d) < 2 ^ len64 d * 2 ^ (64 - len64 d) := Nat.mul_lt_mul_of_pos_right b (Nat.two_pow_pos _)
    rw [← Nat.pow_add, show len64 d + (64 - len64 d) = 64 by omega] at this
    exact this
def lpOk (p : Int) : Bool := decide (170141183460469231731687303715884105728 * tD p ≤ tN p) && decide (tN p ≤ 340282366920938387905510881517444792320 * tD p)
theorem lp_ok : allOk (fun p _ => lpOk p) 0 certP = true := by decide +kernel

/-- The exponent that is taken. -/
def parE (d : Nat) (p : Int) : Int := min 1074 (53 - len64 d - lp10 p)
def parS (d : Nat) (p : Int) : Int := -(parE d p - (64 - len64 d) + lp10 p + 3)
/-- Packed: the significand m, k binades up. -/
def packN (m : Nat) (k : Nat) : Nat := if m < 4503599627370496 then m else if 2046 ≤ k then 9218868437227405312 else (k + 1) * 4503599627370496 + (m - 4503599627370496)
/-- What internal/strconv.parseFloat64 computes. -/
def parseN (d : Nat) (p : Int) : Nat :=
  if 64 ≤ parS d p then 0 else
    let u := uscaleR 18446744073709551616 (d * 2 ^ (64 - len64 d)) (hiT p) (loT p) (parS d p).toNat
    if 36028797018963966 ≤ u then packN (rndU (stick (u / 2) (decide (u % 2 = 1)))) (1075 - parE d p).toNat
    else packN (rndU u) (1074 - parE d p).toNat

theorem packN_eq {m k : Nat} (h0 : k = 0 ∨ 4503599627370496 ≤ m) (h1 : m < 9007199254740992) : packN m k = min (k * 4503599627370496 + m) 9218868437227405312 := by
  unfold packN
  by_cases h : m < 4503599627370496
  · rw [if_pos h]
    obtain rfl : k = 0 := by omega
    omega
  · rw [if_neg h]
    by_cases h2 : 2046 ≤ k
    · rw [if_pos h2]
      have : 2046 * 4503599627370496 ≤ k * 4503599627370496 := Nat.mul_le_mul_right _ h2
      omega
    · rw [if_neg h2]
      have : k * 4503599627370496 ≤ 2045 * 4503599627370496 := Nat.mul_le_mul_right _ (by omega)
      rw [Nat.add_mul]
      omega
/-- d * 10 ^ p in halves of the least place, as a fraction. -/
def hp : Nat := 1075
def decA (d : Nat) (p : Int) : Nat := d * 10 ^ p.toNat * 2 ^ hp
def decB10 (p : Int) : Nat := 10 ^ (-p).toNat
theorem rel1 {d : Nat} {p : Int} {s k : Nat} (hl : len64 d ≤ 64) (h : (k : Int) = 1204 + s - 64 + len64 d - 127 + lp10 p) :
    2 * decA d p * (tD p * (18446744073709551616 * 18446744073709551616) * 2 ^ s) = d * 2 ^ (64 - len64 d) * tN p * 2 ^ k * decB10 p := by
  unfold decA decB10 tN tD
  rw [show (18446744073709551616 * 18446744073709551616 : Nat) = 2 ^ 128 by decide]
  have e : 2 * 2 ^ hp * (2 ^ (lp10 p - 127).toNat * 2 ^ 128 * 2 ^ s) = 2 ^ (64 - len64 d) * 2 ^ (127 - lp10 p).toNat * 2 ^ k := by
    rw [← Nat.pow_add, ← Nat.pow_add, ← Nat.pow_add, ← Nat.pow_add, ← Nat.pow_succ', ← Nat.pow_add]
    congr 1
    have : hp = 1075 := rfl
    omega
  generalize 10 ^ (-p).toNat = b at *
  generalize 10 ^ p.toNat = a at *
  generalize 2 ^ hp = t at *
  generalize 2 ^ (lp10 p - 127).toNat = x at *
  generalize 2 ^ (127 - lp10 p).toNat = y at *
  generalize 2 ^ (64 - len64 d) = z at *
  generalize 2 ^ 128 = v at *
  generalize 2 ^ s = S at *
  generalize 2 ^ k = K at *
  have e2 : 2 * (d * a * t) * (b * x * v * S) = d * a * b * (2 * t * (x * v * S)) := by
    simp only [Nat.mul_assoc, Nat.mul_left_comm, Nat.mul_comm]
  rw [e2, e]
  simp only [Nat.mul_assoc, Nat.mul_left_comm, Nat.mul_comm]
theorem four (m T : Nat) : 4 * m * T = 2 * (2 * m * T) := by rw [← Nat.mul_assoc 2 (2 * m) T, ← Nat.mul_assoc 2 2 m]
theorem four2 (m T : Nat) : (4 * m + 2) * T = 2 * ((2 * m + 1) * T) := by rw [← Nat.mul_assoc 2 (2 * m + 1) T]; congr 1; omega
/-- From the scaled product's rounding to the rung. -/
theorem inI_scaled {m k a b y E : Nat} (hE : 0 < E) (hb : 0 < b) (h0 : k = 0 ∨ 4503599627370496 ≤ m) (h1 : m ≤ 9007199254740992) (hrel : 2 * a * E = y * 2 ^ k * b)
    (h2 : y ≤ (4 * m + 2) * E) (h3 : 4 * m * E ≤ y + 2 * E) (h4 : y = (4 * m + 2) * E ∨ 4 * m * E = y + 2 * E → m % 2 = 0)
    (h5 : k = 0 ∨ 4503599627370496 < m ∨ 4 * m * E ≤ y + E) : InI (k * 4503599627370496 + m) a b := by
  have hT : 0 < 2 ^ k * b := Nat.mul_pos (Nat.two_pow_pos k) hb
  have e1 : ∀ c : Nat, c * 2 ^ k * b = c * (2 ^ k * b) := fun c => Nat.mul_assoc _ _ _
  rw [e1] at hrel
  have lem : ∀ c : Nat, y ≤ c * E → 2 * a ≤ c * (2 ^ k * b) := fun c hc => by
    refine Nat.le_of_mul_le_mul_right ?_ hE
    rw [hrel, Nat.mul_right_comm]
    exact Nat.mul_le_mul_right _ hc
  have lem' : ∀ c : Nat, c * E ≤ y → c * (2 ^ k * b) ≤ 2 * a := fun c hc => by
    refine Nat.le_of_mul_le_mul_right ?_ hE
    rw [hrel, Nat.mul_right_comm]
    exact Nat.mul_le_mul_right _ hc
  have lemE : ∀ c : Nat, 2 * a = c * (2 ^ k * b) → y = c * E := fun c hc => by
    rw [hc, Nat.mul_right_comm] at hrel
    exact (Nat.eq_of_mul_eq_mul_right hT hrel).symm
  have e2 : (4 * m + 2) * E = 4 * m * E + 2 * E := Nat.add_mul _ _ _
  -- the bound below, without a difference
  have low : 4 * m * (2 ^ k * b) ≤ 2 * a + 2 * (2 ^ k * b) := by
    rcases Nat.eq_zero_or_pos m with hm | hm
    · subst hm; omega
    · have := lem' (4 * m - 2) (by rw [Nat.sub_mul]; omega)
      rw [Nat.sub_mul] at this
      omega
  refine inI_of h0 h1 ?_ ?_ ?_ ?_
  · rw [e1]
    have := four m (2 ^ k * b)
    omega
  · rw [e1]
    have := lem _ h2
    have e3 := four2 m (2 ^ k * b)
    omega
  · rw [e1, e1]
    intro h
    refine h4 ?_
    rcases h with h | h
    · right
      rcases Nat.eq_zero_or_pos m with hm | hm
      · subst hm; omega
      · have := lemE (4 * m - 2) (by
          rw [Nat.sub_mul]
          have := four m (2 ^ k * b)
          omega)
        rw [Nat.sub_mul] at this
        have : 2 * E ≤ 4 * m * E := Nat.mul_le_mul_right _ (by omega)
        omega
    · left
      refine lemE _ ?_
      rw [h]; exact (four2 m _).symm
  · rcases h5 with h | h | h
    · exact .inl h
    · exact .inr (.inl h)
    · right; right
      rw [e1]
      rcases Nat.eq_zero_or_pos m with hm | hm
      · subst hm; omega
      · have := lem' (4 * m - 1) (by rw [Nat.sub_mul]; omega)
        rw [Nat.sub_mul] at this
        omega
theorem lp_bounds {p : Int} (h0 : -348 ≤ p) (h1 : p ≤ 347) : 170141183460469231731687303715884105728 * tD p ≤ tN p ∧ tN p ≤ 340282366920938387905510881517444792320 * tD p := by
  obtain ⟨_, h⟩ := at10 lp_ok certP_len h0 h1
  rw [lpOk, Bool.and_eq_true, decide_eq_true_eq, decide_eq_true_eq] at h
  exact h
/-- The scaled product's size, where s is 8 + t. -/
theorem y_bounds {x s : Nat} {p : Int} (h0 : -348 ≤ p) (h1 : p ≤ 347) (hx0 : 9223372036854775808 ≤ x) (hx1 : x < 18446744073709551616) (hs : 8 ≤ s) :
    x * tN p * 2 ^ (s - 8) < 72057594037927920 * (tD p * (18446744073709551616 * 18446744073709551616) * 2 ^ s) ∧
    (s = 8 → 18014398509481984 * (tD p * (18446744073709551616 * 18446744073709551616) * 2 ^ s) ≤ x * tN p) ∧
    x * tN p * 2 ^ s < 18446744073709551616 * 2 ^ s * (tD p * (18446744073709551616 * 18446744073709551616)) := by
  obtain ⟨b0, b1⟩ := lp_bounds h0 h1
  have hD := tD_pos p
  have hN := tN_pos p
  have hS : 2 ^ s = 256 * 2 ^ (s - 8) := by
    rw [show (256 : Nat) = 2 ^ 8 by decide, ← Nat.pow_add]; congr 1; omega
  have hT := Nat.two_pow_pos (s - 8)
  have hT2 := Nat.two_pow_pos s
  have c1 : x * tN p < 18446744073709551616 * tN p := Nat.mul_lt_mul_of_pos_right hx1 hN
  have c0 : 9223372036854775808 * tN p ≤ x * tN p := Nat.mul_le_mul_right _ hx0
  generalize tD p = D at *
  generalize tN p = N at *
  generalize x * N = y at *
  obtain ⟨Q, hQ⟩ : ∃ Q, Q = 18446744073709551616 * 18446744073709551616 := ⟨_, rfl⟩
  rw [← hQ]
  refine ⟨?_, ?_, ?_⟩
  · rw [hS]
    generalize 2 ^ (s - 8) = T at *
    have e : 72057594037927920 * (D * Q * (256 * T)) = 72057594037927920 * (Q * 256) * D * T := by
      simp only [Nat.mul_assoc, Nat.mul_left_comm, Nat.mul_comm]
    rw [e]
    refine Nat.mul_lt_mul_of_pos_right (Nat.lt_of_lt_of_le c1 ?_) hT
    have : 18446744073709551616 * N ≤ 18446744073709551616 * (340282366920938387905510881517444792320 * D) := Nat.mul_le_mul_left _ b1
    rw [← Nat.mul_assoc] at this
    have e2 : 18446744073709551616 * 340282366920938387905510881517444792320 = 72057594037927920 * (Q * 256) := by rw [hQ]
    rw [← e2]
    exact this
  · intro h8
    subst h8
    refine Nat.le_trans ?_ c0
    have : 9223372036854775808 * (170141183460469231731687303715884105728 * D) ≤ 9223372036854775808 * N := Nat.mul_le_mul_left _ b0
    rw [← Nat.mul_assoc] at this
    refine Nat.le_trans (Nat.le_of_eq ?_) this
    have e2 : 9223372036854775808 * 170141183460469231731687303715884105728 = 18014398509481984 * (Q * 256) := by rw [hQ]
    rw [e2]
    show 18014398509481984 * (D * Q * 256) = _
    simp only [Nat.mul_assoc, Nat.mul_left_comm, Nat.mul_comm]
  · have : y < 18446744073709551616 * (D * Q) := by
      refine Nat.lt_of_lt_of_le c1 ?_
      have : 18446744073709551616 * N ≤ 18446744073709551616 * (340282366920938387905510881517444792320 * D) := Nat.mul_le_mul_left _ b1
      refine Nat.le_trans this (Nat.mul_le_mul_left _ ?_)
      rw [Nat.mul_comm D]
      refine Nat.mul_le_mul_right _ ?_
      rw [hQ]; decide
    rw [Nat.mul_right_comm]
    exact Nat.mul_lt_mul_of_pos_right this hT2
/-- WHAT parseFloat64 COMPUTES IS THE NEAREST RUNG (infinity, where that is beyond all). -/
theorem parse_ok {d : Nat} {p : Int} (hd : 0 < d) (hd2 : d < 18446744073709551616) (h0 : -348 ≤ p) (h1 : p ≤ 347) :
    ∃ r, InI r (decA d p) (decB10 p) ∧ parseN d p = min r 9218868437227405312 := by
  obtain ⟨n0, n1⟩ := norm64 hd hd2
  have hl := len64_le hd2
  have hb : 0 < decB10 p := Nat.pow_pos (by decide)
  have hs8 : 8 ≤ parS d p := by unfold parS parE; omega
  have hk8 : parS d p = 8 ∨ parE d p = 1074 := by unfold parS parE; omega
  have hke : parE d p ≤ 1074 := by unfold parE; omega
  have hse : parS d p = 61 - parE d p - lp10 p - len64 d := by unfold parS; omega
  obtain ⟨s, hs⟩ : ∃ s : Nat, parS d p = s := ⟨(parS d p).toNat, by omega⟩
  obtain ⟨k, hk⟩ : ∃ k : Nat, parE d p = 1074 - k := ⟨(1074 - parE d p).toNat, by omega⟩
  have hrel := rel1 (d := d) (p := p) (s := s) (k := k) hl (by omega)
  obtain ⟨b1, b2, b3⟩ := y_bounds (s := s) h0 h1 n0 n1 (by omega)
  have hE : 0 < tD p * (18446744073709551616 * 18446744073709551616) * 2 ^ s := Nat.mul_pos (Nat.mul_pos (tD_pos p) (by decide)) (Nat.two_pow_pos s)
  have hu := uscale_p (s := s) h0 h1 (by omega) n0 n1
  have hpar : parseN d p = if 64 ≤ s then 0 else if 36028797018963966 ≤ unr (d * 2 ^ (64 - len64 d) * tN p) (tD p * (18446744073709551616 * 18446744073709551616) * 2 ^ s) then
      packN (rndU (stick (unr (d * 2 ^ (64 - len64 d) * tN p) (tD p * (18446744073709551616 * 18446744073709551616) * 2 ^ s) / 2) (decide (unr (d * 2 ^ (64 - len64 d) * tN p) (tD p * (18446744073709551616 * 18446744073709551616) * 2 ^ s) % 2 = 1)))) (k + 1)
      else packN (rndU (unr (d * 2 ^ (64 - len64 d) * tN p) (tD p * (18446744073709551616 * 18446744073709551616) * 2 ^ s))) k := by
    unfold parseN
    rw [hs, hk, Int.toNat_natCast, hu, show (1075 - (1074 - (k : Int))).toNat = k + 1 by omega, show (1074 - (1074 - (k : Int))).toNat = k by omega]
    by_cases h : 64 ≤ s
    · rw [if_pos (by omega), if_pos h]
    · rw [if_neg (by omega), if_neg h]
  rw [hpar]
  clear hpar hu
  have hT8 : 1 ≤ 2 ^ (s - 8) := Nat.two_pow_pos _
  generalize d * 2 ^ (64 - len64 d) * tN p = y at *
  by_cases h64 : 64 ≤ s
  · -- below all rungs
    rw [if_pos h64]
    refine ⟨0, ⟨.inl rfl, .inl ?_⟩, rfl⟩
    obtain rfl : k = 0 := by omega
    have hS : 2 ^ s = 18446744073709551616 * 2 ^ (s - 64) := by
      rw [show (18446744073709551616 : Nat) = 2 ^ 64 by decide, ← Nat.pow_add]; congr 1; omega
    have hT := Nat.two_pow_pos (s - 64)
    have hm0 : mid 0 = 1 := by decide
    rw [hm0, Nat.one_mul]
    rw [Nat.pow_zero, Nat.mul_one] at hrel
    have hD := tD_pos p
    have h5 : y < tD p * (18446744073709551616 * 18446744073709551616) * 2 ^ s := by
      refine Nat.lt_of_mul_lt_mul_right (a := 2 ^ s) (Nat.lt_of_lt_of_le b3 ?_)
      rw [Nat.mul_comm (18446744073709551616 * 2 ^ s), ← Nat.mul_assoc]
      refine Nat.mul_le_mul_right _ ?_
      refine Nat.mul_le_mul_left _ ?_
      rw [hS]
      exact Nat.le_mul_of_pos_right _ hT
    generalize tD p * (18446744073709551616 * 18446744073709551616) * 2 ^ s = E at *
    refine Nat.lt_of_mul_lt_mul_right (a := E) ?_
    have : y * decB10 p < E * decB10 p := Nat.mul_lt_mul_of_pos_right h5 hb
    rw [Nat.mul_comm E] at this
    have : 2 * decA d p * E = 2 * (decA d p * E) := Nat.mul_assoc _ _ _
    omega
  · rw [if_neg h64]
    have hyE : y < 72057594037927920 * (tD p * (18446744073709551616 * 18446744073709551616) * 2 ^ s) := Nat.lt_of_le_of_lt (Nat.le_mul_of_pos_right _ hT8) b1
    have hlow : k = 0 ∨ 18014398509481984 * (tD p * (18446744073709551616 * 18446744073709551616) * 2 ^ s) ≤ y := by
      rcases hk8 with h | h
      · exact .inr (b2 (by omega))
      · exact .inl (by omega)
    clear b1 b2 b3
    generalize tD p * (18446744073709551616 * 18446744073709551616) * 2 ^ s = E at *
    obtain ⟨s0, s1⟩ := unr_spec (y := y) hE
    by_cases hsh : 36028797018963966 ≤ unr y E
    · rw [if_pos hsh, unr_half hE]
      have hE2 : 0 < 2 * E := by omega
      obtain ⟨t0, t1⟩ := unr_spec (y := y) hE2
      obtain ⟨r0, r1, r2⟩ := rndU_spec (y := y) hE2
      have hy55 : 36028797018963966 * E ≤ y := by
        rcases Nat.mod_two_eq_zero_or_one (unr y E) with h | h
        · rw [s0 h]; exact Nat.mul_le_mul_right _ hsh
        · have := (s1 h).1
          have : 36028797018963966 * E ≤ (unr y E - 1) * E := Nat.mul_le_mul_right _ (by omega)
          omega
      have hm1 : 4503599627370496 ≤ rndU (unr y (2 * E)) := by
        rcases Nat.lt_or_ge (rndU (unr y (2 * E))) 4503599627370496 with h | h
        · have : (4 * rndU (unr y (2 * E)) + 2) * (2 * E) ≤ 18014398509481982 * (2 * E) := Nat.mul_le_mul_right _ (by omega)
          have hm9 : rndU (unr y (2 * E)) = 4503599627370495 := by
            rcases Nat.lt_or_ge (rndU (unr y (2 * E))) 4503599627370495 with h9 | h9
            · have : (4 * rndU (unr y (2 * E)) + 2) * (2 * E) ≤ 18014398509481978 * (2 * E) := Nat.mul_le_mul_right _ (by omega)
              omega
            · omega
          rw [hm9] at r2 r0
          exact absurd (r2 (.inl (by omega))) (by decide)
        · exact h
      have hm2 : rndU (unr y (2 * E)) < 9007199254740992 := by
        rcases Nat.lt_or_ge (rndU (unr y (2 * E))) 9007199254740992 with h | h
        · exact h
        · have : 4 * 9007199254740992 * (2 * E) ≤ 4 * rndU (unr y (2 * E)) * (2 * E) := Nat.mul_le_mul_right _ (by omega)
          omega
      refine ⟨(k + 1) * 4503599627370496 + rndU (unr y (2 * E)), ?_, packN_eq (.inr hm1) hm2⟩
      refine inI_scaled hE2 hb (.inr hm1) (by omega) ?_ r0 r1 r2 ?_
      · have e1 : 2 * decA d p * (2 * E) = 2 * (2 * decA d p * E) := Nat.mul_left_comm _ _ _
        have e2 : y * 2 ^ (k + 1) * decB10 p = 2 * (y * 2 ^ k * decB10 p) := by
          rw [Nat.pow_succ, Nat.mul_comm (2 ^ k) 2, Nat.mul_left_comm, Nat.mul_assoc]
        rw [e1, e2, hrel]
      · rcases Nat.eq_or_lt_of_le hm1 with h | h
        · right; right
          rw [← h]
          omega
        · exact .inr (.inl h)
    · rw [if_neg hsh]
      obtain ⟨r0, r1, r2⟩ := rndU_spec (y := y) hE
      have hm1 : k = 0 ∨ 4503599627370496 ≤ rndU (unr y E) := by
        rcases hlow with h | h
        · exact .inl h
        · right
          rcases Nat.lt_or_ge (rndU (unr y E)) 4503599627370496 with h9 | h9
          · have : (4 * rndU (unr y E) + 2) * E ≤ 18014398509481982 * E := Nat.mul_le_mul_right _ (by omega)
            omega
          · exact h9
      have hm2 : rndU (unr y E) < 9007199254740992 := by unfold rndU; omega
      refine ⟨k * 4503599627370496 + rndU (unr y E), ?_, packN_eq hm1 hm2⟩
      refine inI_scaled hE hb hm1 (by omega) hrel r0 r1 r2 ?_
      rcases hlow with h | h
      · exact .inl h
      · rcases Nat.lt_or_ge 4503599627370496 (rndU (unr y E)) with h9 | h9
        · exact .inr (.inl h9)
        · right; right
          have : 4 * rndU (unr y E) * E ≤ 18014398509481984 * E := Nat.mul_le_mul_right _ (by omega)
          omega
end Go.Proofs.YtagkgfniihiinaaGreatDoor
