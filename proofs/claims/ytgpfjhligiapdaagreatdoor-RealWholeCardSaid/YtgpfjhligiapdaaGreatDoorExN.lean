/- Whole numbers, products and quotients of the model's own floats: the nearest rung (no program in sight). -/
import Derived.Test.YtgpfjhligiapdaaGreatDoorExact
import Derived.Laws.FloatArith
namespace Go.Proofs.YtgpfjhligiapdaaGreatDoor
open Ieee Go

theorem two_pw (d c e : Nat) (h : e = c + 1) : 2 * (d * 2 ^ c) = d * 2 ^ e := by rw [h, Nat.pow_succ, Nat.mul_comm (2 ^ c), Nat.mul_left_comm]
theorem mul_tp {a : Nat} (c : Nat) (h : 0 < a) : 0 < a * 2 ^ c := Nat.mul_pos h (Nat.two_pow_pos c)
theorem pw_le {a b K k : Nat} (h1 : a ≤ b) (h2 : K ≤ k) : a * 2 ^ K ≤ b * 2 ^ k := Nat.mul_le_mul h1 (Nat.pow_le_pow_right (by decide) h2)
theorem rv_ne {n c : Nat} (hn : 0 < n) (h : rv 0 = n * 2 ^ c) : False := by
  have h0 : rv 0 = 0 := rfl
  have h1 := Nat.mul_pos hn (Nat.two_pow_pos c)
  omega
/-- A word with its sign. -/
theorem word_is (neg : Bool) (x : Nat) : Ieee.double.word neg x = (if neg then 9223372036854775808 else 0) + x := by
  unfold Ieee.Format.word
  rw [sign_weight]
  cases neg <;> simp
theorem write_num (neg : Bool) (m : Nat) (p : Int) : Ieee.double.write (.number neg m p) = Ieee.double.nearest neg m p := rfl
/-- A whole number's float is its rung. -/
theorem flt_rung {d : Nat} (h0 : 0 < d) (h1 : d < 9007199254740992) : ∃ R, floatOfInt .f64 (d : Int) = R ∧ rv R = d * 2 ^ 1074 ∧ R < 9218868437227405312 ∧ 0 < R := by
  obtain ⟨R, hR, hR9⟩ := rung_whole h0 h1
  have e : floatOfInt .f64 (d : Int) = Ieee.double.nearest false d 0 := by
    show Ieee.double.write (.number (decide ((d : Int) < 0)) (d : Int).natAbs 0) = _
    rw [decide_eq_false (by omega), Int.natAbs_natCast, write_num]
  obtain ⟨r, h2, h3⟩ := nearest_inI false h0 0
  have h4 : InI R (2 * rv R) 1 := InI.self
  have h5 : InI r (2 * rv R) 1 := by
    rw [show (0 + 1075 : Int).toNat = 1075 by rfl, show (-(0 + 1075 : Int)).toNat = 0 by rfl, Nat.pow_zero] at h3
    have : 2 * rv R = d * 2 ^ 1075 := by rw [hR]; exact two_pw d 1074 1075 rfl
    rw [this]; exact h3
  have h6 := h5.uniq (by decide) h4
  refine ⟨R, ?_, hR, hR9, ?_⟩
  · rw [e, h2, h6, Nat.min_eq_left (Nat.le_of_lt hR9), word_is]; simp
  · rcases Nat.eq_zero_or_pos R with h | h
    · rw [h] at hR
      exact (rv_ne h0 hR).elim
    · exact h
theorem pow_split {a b c : Int} (h : a = b + c) (hb : 0 ≤ b) (hc : 0 ≤ c) : (2 : Nat) ^ a.toNat = 2 ^ b.toNat * 2 ^ c.toNat := by
  rw [← Nat.pow_add]; congr 1; omega
/-- A product. -/
theorem mul_rung {n1 : Bool} {R z : Nat} (hR : R < 9218868437227405312) (hR0 : 0 < R) (hz : z < 9218868437227405312) (hz0 : 0 < z) :
    ∃ r, Ieee.double.mul ((if n1 then 9223372036854775808 else 0) + R) z = some ((if n1 then 9223372036854775808 else 0) + min r 9218868437227405312) ∧ InI r (rv R * rv z) (2 ^ 1073) := by
  obtain ⟨m1, p1, h1, q1, e1⟩ := read_num (n := (if n1 then 9223372036854775808 else 0) + R) (by split <;> omega)
  obtain ⟨m2, p2, h2, q2, e2⟩ := read_num (n := z) (by omega)
  have g1 : negF ((if n1 then 9223372036854775808 else 0) + R) = n1 := by unfold negF; cases n1 <;> simp <;> omega
  have g2 : negF z = false := by unfold negF; simp; omega
  have k1 : ((if n1 then 9223372036854775808 else 0) + R) % 9223372036854775808 = R := by split <;> omega
  have k2 : z % 9223372036854775808 = z := by omega
  rw [k1] at e1
  rw [k2] at e2
  rw [g1] at h1
  rw [g2] at h2
  have hm1 : 0 < m1 := by
    rcases Nat.eq_zero_or_pos m1 with h | h
    · rw [h, Nat.zero_mul] at e1
      have := rv_pos.1 e1.symm
      omega
    · exact h
  have hm2 : 0 < m2 := by
    rcases Nat.eq_zero_or_pos m2 with h | h
    · rw [h, Nat.zero_mul] at e2
      have := rv_pos.1 e2.symm
      omega
    · exact h
  obtain ⟨r, h3, h4⟩ := nearest_inI n1 (Nat.mul_pos hm1 hm2) (p1 + p2)
  refine ⟨r, ?_, ?_⟩
  · unfold Ieee.Format.mul
    rw [h1, h2]
    show some (Ieee.double.write (.number (n1 ^^ false) (m1 * m2) (p1 + p2))) = _
    rw [write_num, Bool.xor_false, h3, word_is]
  · obtain ⟨c73, hc⟩ : ∃ c : Nat, c = 1073 := ⟨_, rfl⟩
    rw [← hc]
    refine (InI.cross (Nat.two_pow_pos _) (Nat.two_pow_pos _) ?_).1 h4
    rw [← e1, ← e2]
    have hp : (2 : Nat) ^ (p1 + 1074).toNat * 2 ^ (p2 + 1074).toNat * 2 ^ (-(p1 + p2 + 1075)).toNat = 2 ^ (p1 + p2 + 1075).toNat * 2 ^ c73 := by
      rw [← Nat.pow_add, ← Nat.pow_add, ← Nat.pow_add]; congr 1; omega
    have : m1 * 2 ^ (p1 + 1074).toNat * (m2 * 2 ^ (p2 + 1074).toNat) * 2 ^ (-(p1 + p2 + 1075)).toNat = m1 * m2 * (2 ^ (p1 + 1074).toNat * 2 ^ (p2 + 1074).toNat * 2 ^ (-(p1 + p2 + 1075)).toNat) := by
      simp only [Nat.mul_assoc, Nat.mul_left_comm]
    rw [this, hp]
    simp only [Nat.mul_assoc]
theorem quo_top {m n : Nat} (hm : 0 < m) (hn : 0 < n) : 9007199254740992 ≤ m * 2 ^ (54 + n.log2 - m.log2) / n := by
  rw [Nat.le_div_iff_mul_le hn]
  have h1 : 2 ^ m.log2 ≤ m := Nat.log2_self_le (by omega)
  have h2 : n < 2 ^ (n.log2 + 1) := Nat.lt_log2_self
  have h3 : 2 ^ m.log2 * 2 ^ (54 + n.log2 - m.log2) ≤ m * 2 ^ (54 + n.log2 - m.log2) := Nat.mul_le_mul_right _ h1
  rw [← Nat.pow_add] at h3
  have h4 : (2 : Nat) ^ (54 + n.log2) ≤ 2 ^ (m.log2 + (54 + n.log2 - m.log2)) := Nat.pow_le_pow_right (by decide) (by omega)
  have h5 : (2 : Nat) ^ (54 + n.log2) = 9007199254740992 * 2 ^ (n.log2 + 1) := by
    rw [show (9007199254740992 : Nat) = 2 ^ 53 by decide, ← Nat.pow_add]; congr 1; omega
  have h6 : 9007199254740992 * n ≤ 9007199254740992 * 2 ^ (n.log2 + 1) := Nat.mul_le_mul_left _ (Nat.le_of_lt h2)
  exact Nat.le_trans h6 (Nat.le_trans (Nat.le_of_eq h5.symm) (Nat.le_trans h4 h3))
/-- A quotient. -/
theorem quo_rung {n1 : Bool} {R z : Nat} (hR : R < 9218868437227405312) (hR0 : 0 < R) (hz : z < 9218868437227405312) (hz0 : 0 < z) :
    ∃ r, Ieee.double.div ((if n1 then 9223372036854775808 else 0) + R) z = some ((if n1 then 9223372036854775808 else 0) + min r 9218868437227405312) ∧ InI r (rv R * 2 ^ 1075) (rv z) := by
  obtain ⟨m1, p1, h1, q1, e1⟩ := read_num (n := (if n1 then 9223372036854775808 else 0) + R) (by split <;> omega)
  obtain ⟨m2, p2, h2, q2, e2⟩ := read_num (n := z) (by omega)
  have g1 : negF ((if n1 then 9223372036854775808 else 0) + R) = n1 := by unfold negF; cases n1 <;> simp <;> omega
  have g2 : negF z = false := by unfold negF; simp; omega
  have k1 : ((if n1 then 9223372036854775808 else 0) + R) % 9223372036854775808 = R := by split <;> omega
  have k2 : z % 9223372036854775808 = z := by omega
  rw [k1] at e1
  rw [k2] at e2
  rw [g1] at h1
  rw [g2] at h2
  have hm1 : 0 < m1 := by
    rcases Nat.eq_zero_or_pos m1 with h | h
    · rw [h, Nat.zero_mul] at e1
      have := rv_pos.1 e1.symm
      omega
    · exact h
  have hm2 : 0 < m2 := by
    rcases Nat.eq_zero_or_pos m2 with h | h
    · rw [h, Nat.zero_mul] at e2
      have := rv_pos.1 e2.symm
      omega
    · exact h
  have hq := quo_top hm1 hm2
  obtain ⟨mo, hmo⟩ : ∃ mo, mo = 54 + m2.log2 - m1.log2 := ⟨_, rfl⟩
  rw [← hmo] at hq
  obtain ⟨X, hX⟩ : ∃ X, X = m1 * 2 ^ mo := ⟨_, rfl⟩
  rw [← hX] at hq
  obtain ⟨P, hP⟩ : ∃ P : Int, P = p1 - p2 - mo - 1 := ⟨_, rfl⟩
  have hst : (X % m2 != 0).toNat = (decide (X ≠ X / m2 * m2)).toNat := by
    have h9 := Nat.div_add_mod X m2
    rw [Nat.mul_comm] at h9
    congr 1
    by_cases h : X % m2 = 0
    · have h8 : X = X / m2 * m2 := by omega
      rw [show (X % m2 != 0) = false by simp [h], decide_eq_false (fun hne => hne h8)]
    · have h8 : X ≠ X / m2 * m2 := by omega
      rw [show (X % m2 != 0) = true by simp [h], decide_eq_true h8]
  have hmag : 0 < 2 * (X / m2) + (X % m2 != 0).toNat := by omega
  obtain ⟨r, h3, h4⟩ := nearest_inI n1 hmag P
  refine ⟨r, ?_, ?_⟩
  · unfold Ieee.Format.div
    rw [h1, h2]
    unfold Ieee.Datum.quotient
    simp only [Nat.pos_iff_ne_zero.1 hm2, if_false, Bool.xor_false, show Ieee.double.fractionBits + 2 = 54 from rfl, ← hmo, Nat.shiftLeft_eq, ← hX, ← hP]
    show some (Ieee.double.write _) = _
    rw [write_num, h3, word_is]
  · rw [hst] at h4
    have h5 := sticky_inI (p := P + 1075) hm2 hq (by have := Nat.div_mul_le_self X m2; exact this) (by
      have h9 := Nat.div_add_mod X m2
      have h8 := Nat.mod_lt X hm2
      rw [Nat.add_mul, Nat.one_mul, Nat.mul_comm (X / m2)]; omega) h4
    have hz9 : 0 < rv z := by rw [← e2]; exact Nat.mul_pos hm2 (Nat.two_pow_pos _)
    refine (InI.cross (Nat.mul_pos hm2 (Nat.two_pow_pos _)) hz9 ?_).1 h5
    rw [← e1, ← e2, hX]
    obtain ⟨c75, hc⟩ : ∃ c : Nat, c = 1075 := ⟨_, rfl⟩
    rw [← hc]
    have hp : 2 * 2 ^ mo * 2 ^ (P + 1075).toNat * 2 ^ (p2 + 1074).toNat = 2 ^ (p1 + 1074).toNat * 2 ^ c75 * 2 ^ (-(P + 1075)).toNat := by
      rw [← Nat.pow_succ', ← Nat.pow_add, ← Nat.pow_add, ← Nat.pow_add, ← Nat.pow_add]; congr 1; omega
    have e3 : 2 * (m1 * 2 ^ mo) * 2 ^ (P + 1075).toNat * (m2 * 2 ^ (p2 + 1074).toNat) = m1 * m2 * (2 * 2 ^ mo * 2 ^ (P + 1075).toNat * 2 ^ (p2 + 1074).toNat) := by
      simp only [Nat.mul_assoc, Nat.mul_left_comm]
    rw [e3, hp]
    simp only [Nat.mul_assoc, Nat.mul_left_comm]
end Go.Proofs.YtgpfjhligiapdaaGreatDoor
