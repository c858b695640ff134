/- Products, quotients and whole numbers of the model's own: rounded to the nearest rung (no program in sight). -/
import Derived.Test.YtgpfjhligiapdaaGreatDoorJ10
import Derived.Test.YtgpfjhligiapdaaGreatDoorShort
namespace Go.Proofs.YtgpfjhligiapdaaGreatDoor
open Ieee

theorem InI.cross {r a b a' b' : Nat} (hb : 0 < b) (hb' : 0 < b') (h : a * b' = a' * b) : InI r a b ↔ InI r a' b' := by
  rw [← InI.scale hb', ← InI.scale (a := a') (b := b') hb, h, Nat.mul_comm b b']
/-- A rung's own number is nearest to itself. -/
theorem InI.self {r : Nat} : InI r (2 * rv r) 1 := by
  have h1 := rv_lt (show r < r + 1 by omega)
  constructor
  · rcases Nat.eq_zero_or_pos r with h | h
    · exact .inl h
    · right; left
      have h2 := rv_lt (show r - 1 < r by omega)
      unfold mid
      rw [show r - 1 + 1 = r by omega]; omega
  · left; unfold mid; omega
/-- A whole number of 53 bits has a rung of its own. -/
theorem rung_whole {m : Nat} (hm : 0 < m) (h : m < 9007199254740992) : ∃ r, rv r = m * 2 ^ 1074 ∧ r < 9218868437227405312 := by
  obtain ⟨a, b, c⟩ := len64_spec hm
  have hl : len64 m ≤ 53 := by
    unfold len64
    rw [if_neg (by omega)]
    have := (Nat.log2_lt (n := m) (k := 53) (by omega)).2 h
    omega
  refine ⟨(1021 + len64 m) * 4503599627370496 + m * 2 ^ (53 - len64 m), ?_, ?_⟩
  · have h1 : 4503599627370496 ≤ m * 2 ^ (53 - len64 m) := by
      have : 2 ^ (len64 m - 1) * 2 ^ (53 - len64 m) ≤ m * 2 ^ (53 - len64 m) := Nat.mul_le_mul_right _ a
      rw [← Nat.pow_add, show len64 m - 1 + (53 - len64 m) = 52 by omega] at this
      exact this
    have h2 : m * 2 ^ (53 - len64 m) ≤ 9007199254740992 := by
      have : m * 2 ^ (53 - len64 m) ≤ 2 ^ len64 m * 2 ^ (53 - len64 m) := Nat.mul_le_mul_right _ (Nat.le_of_lt b)
      rw [← Nat.pow_add, show len64 m + (53 - len64 m) = 53 by omega] at this
      exact this
    rw [rv_at (.inr h1) h2, Nat.mul_assoc, ← Nat.pow_add]
    congr 2; omega
  · have h2 : m * 2 ^ (53 - len64 m) ≤ 9007199254740992 := by
      have : m * 2 ^ (53 - len64 m) ≤ 2 ^ len64 m * 2 ^ (53 - len64 m) := Nat.mul_le_mul_right _ (Nat.le_of_lt b)
      rw [← Nat.pow_add, show len64 m + (53 - len64 m) = 53 by omega] at this
      exact this
    omega
theorem skew_lin2 (m a b : Nat) (h : m * 2 = (4 * 4503599627370496 - 1) * (2 * a * b)) : m = 18014398509481983 * a * b := by
  rw [Nat.mul_assoc 2 a b] at h
  rw [Nat.mul_assoc]
  generalize a * b = c at *
  omega
theorem lin3 (n m X : Nat) (h : 9007199254740992 * n ≤ m) (h2 : m < X) : 18014398509481983 * n < 2 * X := by omega
/-- Where a quotient is cut off with a sticky bit, the rung is that of the exact one. -/
theorem sticky_inI {r q X n : Nat} {p : Int} (hn : 0 < n) (hq : 9007199254740992 ≤ q) (hx0 : q * n ≤ X) (hx1 : X < (q + 1) * n)
    (h : InI r ((2 * q + (decide (X ≠ q * n)).toNat) * 2 ^ p.toNat) (2 ^ (-p).toNat)) : InI r (2 * X * 2 ^ p.toNat) (n * 2 ^ (-p).toNat) := by
  by_cases he : X = q * n
  · rw [show (decide (X ≠ q * n)) = false by simp [he]] at h
    have h2 : InI r (2 * q * 2 ^ p.toNat) (2 ^ (-p).toNat) := h
    refine (InI.cross (Nat.two_pow_pos _) (Nat.mul_pos hn (Nat.two_pow_pos _)) ?_).1 h2
    rw [he]
    simp only [Nat.mul_assoc, Nat.mul_left_comm, Nat.mul_comm]
  · rw [show (decide (X ≠ q * n)) = true by simp [he]] at h
    have h2 : InI r ((2 * q + 1) * 2 ^ p.toNat) (2 ^ (-p).toNat) := h
    clear h
    have hX0 : q * n < X := by omega
    obtain ⟨s1, s2, s3⟩ := rung_split r
    have hmid := mid_high r
    -- the comparison with a multiple of two units
    have key : ∀ z : Nat, (2 * q + 1 < 2 * z ↔ 2 * X < 2 * z * n) ∧ (2 * z < 2 * q + 1 ↔ 2 * z * n < 2 * X) := fun z => by
      have e1 : 2 * z * n = 2 * (z * n) := Nat.mul_assoc _ _ _
      rw [e1]
      refine ⟨⟨fun h => ?_, fun h => ?_⟩, ⟨fun h => ?_, fun h => ?_⟩⟩
      · have : (q + 1) * n ≤ z * n := Nat.mul_le_mul_right _ (by omega)
        omega
      · rcases Nat.lt_or_ge q z with h9 | h9
        · omega
        · have : z * n ≤ q * n := Nat.mul_le_mul_right _ h9
          omega
      · have : z * n ≤ q * n := Nat.mul_le_mul_right _ (by omega)
        omega
      · rcases Nat.lt_or_ge q z with h9 | h9
        · have : (q + 1) * n ≤ z * n := Nat.mul_le_mul_right _ h9
          omega
        · omega
    have lowZ : ∀ z : Nat, 0 < r → r = 0 ∨ 2 * z < 2 * q + 1 ∨ (2 * z = 2 * q + 1 ∧ r % 2 = 0) → 2 * z * n < 2 * X := fun z hr0 l => by
      rcases l with l | l | ⟨l, _⟩
      · exact absurd l (Nat.pos_iff_ne_zero.1 hr0)
      · exact (key z).2.1 l
      · exact absurd l (by clear key; omega)
    have highZ : ∀ z : Nat, 2 * q + 1 < 2 * z ∨ (2 * q + 1 = 2 * z ∧ r % 2 = 0) → 2 * X < 2 * z * n := fun z l => by
      rcases l with l | ⟨l, _⟩
      · exact (key z).1.1 l
      · exact absurd l (by clear key; omega)
    rcases Int.lt_or_le p 0 with hp | hp
    · -- units are coarser than halves of the least place
      obtain ⟨j, hj⟩ : ∃ j : Nat, (-p).toNat = j + 1 := ⟨(-p).toNat - 1, by omega⟩
      rw [show p.toNat = 0 by omega, hj, Nat.pow_zero, Nat.mul_one] at h2 ⊢
      have e : ∀ m : Nat, m * 2 ^ (j + 1) = 2 * (m * 2 ^ j) := fun m => by rw [Nat.pow_succ, ← Nat.mul_assoc, Nat.mul_comm]
      have e2 : ∀ m : Nat, m * (n * 2 ^ (j + 1)) = 2 * (m * 2 ^ j) * n := fun m => by rw [Nat.mul_left_comm, e, Nat.mul_comm]
      obtain ⟨l, g⟩ := h2
      rw [e] at l g
      constructor
      · rcases Nat.eq_zero_or_pos r with hr0 | hr0
        · exact .inl hr0
        · right; left
          rw [e2]
          exact lowZ _ hr0 l
      · left
        rw [e2]
        exact highZ _ g
    · obtain ⟨j, rfl⟩ : ∃ j : Nat, p = j := ⟨p.toNat, by omega⟩
      rw [Int.toNat_natCast, show (-(j : Int)).toNat = 0 by omega, Nat.pow_zero, Nat.mul_one] at *
      have hJ := Nat.two_pow_pos j
      -- the rung lies high enough
      have hK : j + 1 ≤ rK r := by
        rcases Nat.lt_or_ge (rK r) (j + 1) with h9 | h9
        · have g := h2.high
          have : 2 ^ rK r ≤ 2 ^ j := Nat.pow_le_pow_right (by decide) (by omega)
          have h3 : (2 * rM r + 1) * 2 ^ rK r ≤ 18014398509481983 * 2 ^ j := Nat.mul_le_mul (by omega) this
          have h4 : 18014398509481985 * 2 ^ j ≤ (2 * q + 1) * 2 ^ j := Nat.mul_le_mul_right _ (by omega)
          rw [← hmid] at h3
          omega
        · exact h9
      have hr0 : 0 < r := by
        rcases Nat.eq_zero_or_pos r with h9 | h9
        · subst h9; exact absurd hK (by unfold rK; omega)
        · exact h9
      obtain ⟨i, hi⟩ : ∃ i, rK r = j + 1 + i := ⟨rK r - (j + 1), by omega⟩
      have eK : 2 ^ rK r = 2 * 2 ^ i * 2 ^ j := by rw [hi, ← Nat.pow_succ', ← Nat.pow_add]; congr 1; omega
      have lt1 : ∀ a b : Nat, a * 2 ^ j < b * 2 ^ j ↔ a < b := fun a b => ⟨fun h => Nat.lt_of_mul_lt_mul_right h, fun h => Nat.mul_lt_mul_of_pos_right h hJ⟩
      have eq1 : ∀ a b : Nat, a * 2 ^ j = b * 2 ^ j ↔ a = b := fun a b => ⟨fun h => Nat.eq_of_mul_eq_mul_right hJ h, fun h => by rw [h]⟩
      have eh : mid r = 2 * ((2 * rM r + 1) * 2 ^ i) * 2 ^ j := by rw [hmid, eK]; simp only [Nat.mul_assoc, Nat.mul_left_comm]
      have hn1 : ∀ a : Nat, a * 2 ^ j * n = a * n * 2 ^ j := fun a => Nat.mul_right_comm _ _ _
      constructor
      · right
        cases hs : skewB r with
        | false =>
          have el : mid (r - 1) = 2 * ((2 * rM r - 1) * 2 ^ i) * 2 ^ j := by rw [mid_low hr0 hs, eK]; simp only [Nat.mul_assoc, Nat.mul_left_comm]
          have l := h2.low
          simp only [Nat.mul_one] at l
          rw [el] at l ⊢
          rw [lt1, eq1] at l
          rw [hn1, lt1]
          exact .inl (lowZ _ hr0 l)
        | true =>
          have h4 := mid_skew hs
          rw [skewB, Bool.and_eq_true, decide_eq_true_eq, decide_eq_true_eq] at hs
          have g := h2.high
          simp only [Nat.mul_one] at g
          rw [eh, lt1, eq1] at g
          rw [hs.1] at g h4
          left
          -- below the power of two
          have h5 : mid (r - 1) = 18014398509481983 * 2 ^ i * 2 ^ j := by
            rw [eK] at h4
            exact skew_lin2 _ _ _ h4
          rcases Nat.eq_zero_or_pos i with hi0 | hi0
          · subst hi0
            rw [h5, Nat.pow_zero, Nat.mul_one, hn1, lt1]
            exact lin3 _ _ _ (Nat.mul_le_mul_right _ hq) hX0
          · obtain ⟨i', rfl⟩ := Nat.exists_eq_succ_of_ne_zero (Nat.pos_iff_ne_zero.1 hi0)
            have h6 : mid (r - 1) = 2 * (18014398509481983 * 2 ^ i') * 2 ^ j := by
              rw [h5, Nat.pow_succ, Nat.mul_comm (2 ^ i') 2, Nat.mul_left_comm]
            have l := h2.low
            simp only [Nat.mul_one] at l
            rw [h6] at l ⊢
            rw [lt1, eq1] at l
            rw [hn1, lt1]
            exact lowZ _ hr0 l
      · have g := h2.high
        simp only [Nat.mul_one] at g
        left
        rw [eh] at g ⊢
        rw [lt1, eq1] at g
        rw [hn1, lt1]
        exact highZ _ g
end Go.Proofs.YtgpfjhligiapdaaGreatDoor
