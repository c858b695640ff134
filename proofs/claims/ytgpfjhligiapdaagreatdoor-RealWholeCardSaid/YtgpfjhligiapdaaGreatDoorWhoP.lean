/- The digits that are written of a whole number below 2 to the power of 53 are its own: plain. -/
import Derived.Test.YtgpfjhligiapdaaGreatDoorExP
namespace Go.Proofs.YtgpfjhligiapdaaGreatDoor

theorem pow_up {a b : Nat} (h : a < b) : 2 ^ a < 2 ^ b := Nat.pow_lt_pow_right (by decide) h
theorem pw4 (n T c e : Nat) (h : e = c + 1) : 2 * (n * 2 ^ c) * T = n * T * 10 ^ 0 * 2 ^ e := by
  rw [h, Nat.pow_zero, Nat.mul_one, Nat.pow_succ]
  simp only [Nat.mul_assoc, Nat.mul_left_comm, Nat.mul_comm]
theorem own_in {r n : Nat} (hrv : rv r = n * 2 ^ 1074) (f : Nat) : InI r (decA (n * 10 ^ f) (-(f : Int))) (decB10 (-(f : Int))) := by
  have hb : 0 < decB10 (-(f : Int)) := Nat.pow_pos (by decide)
  refine (InI.cross Nat.one_pos hb ?_).1 InI.self
  unfold decA
  rw [hrv, (ten_at f).1, (ten_at f).2.2.1, Nat.mul_one]
  exact pw4 n (10 ^ f) 1074 Go.Proofs.YtgpfjhligiapdaaGreatDoor.hp rfl
theorem up_bound {r c f : Nat} (h : InI r (decA c (-(f : Int))) (decB10 (-(f : Int)))) : c * 2 ^ 1075 ≤ mid r * 10 ^ f := by
  have h1 : decA c (-(f : Int)) ≤ mid r * decB10 (-(f : Int)) := by
    rcases h.high with h | h
    · exact Nat.le_of_lt h
    · exact Nat.le_of_eq h.1
  unfold decA at h1
  rw [(ten_at f).1, (ten_at f).2.2.1, Nat.pow_zero, Nat.mul_one, show Go.Proofs.YtgpfjhligiapdaaGreatDoor.hp = 1075 from rfl] at h1
  exact h1
theorem wid_l : allN 1075 (fun k => decide (0 ≤ -l10p2 (k - 1074)) && decide (2 ^ k * 10 ^ (-l10p2 (k - 1074)).toNat < 10 * 2 ^ 1075) && decide (1 ≤ -skewF (k - 1074)) && decide (2 ^ k * 10 ^ (-skewF (k - 1074)).toNat < 10 * 2 ^ 1075)) = true := by decide +kernel
theorem rK_whole {r n : Nat} (hn2 : n < 9007199254740992) (hrv : rv r = n * 2 ^ 1074) : rK r < 1075 := by
  rcases Nat.lt_or_ge (rK r) 1075 with h | h
  · exact h
  · exfalso
    obtain ⟨h1, h2, h3⟩ := rung_split r
    have hm : 4503599627370496 ≤ rM r := by omega
    rw [rv_split] at hrv
    have h4 := pw_le hm h
    rw [hrv] at h4
    have h5 : 4503599627370496 * 2 ^ 1075 = 9007199254740992 * 2 ^ 1074 := by decide +kernel
    rw [h5] at h4
    have h6 := Nat.le_of_mul_le_mul_right h4 (Nat.two_pow_pos 1074)
    clear h4 h5 hrv
    omega
theorem fP_whole {r n : Nat} (hn2 : n < 9007199254740992) (hrv : rv r = n * 2 ^ 1074) : ∃ f : Nat, fP r = (f : Int) ∧ 2 ^ rK r * 10 ^ f < 10 * 2 ^ 1075 := by
  have h := allN_at wid_l _ (rK_whole hn2 hrv)
  simp only [Bool.and_eq_true, decide_eq_true_eq] at h
  obtain ⟨⟨⟨h1, h2⟩, h3⟩, h4⟩ := h
  unfold fP
  cases skewB r
  · exact ⟨_, (Int.toNat_of_nonneg h1).symm, h2⟩
  · exact ⟨_, (Int.toNat_of_nonneg (Int.le_trans (by decide) h3)).symm, h4⟩
/-- A whole number between the bounds is the number itself. -/
theorem only_one {r n c : Nat} (hr0 : 0 < r) (hrv : rv r = n * 2 ^ 1074) (hc : c < 9007199254740992) (h : InI r (decA c (-((0 : Nat) : Int))) (decB10 (-((0 : Nat) : Int)))) : c = n := by
  rcases Nat.eq_zero_or_pos c with h0 | h0
  · exfalso
    have e : decA c (-((0 : Nat) : Int)) = 0 := by rw [h0]; unfold decA; rw [Nat.zero_mul, Nat.zero_mul]
    rw [e] at h
    have h1 : 0 < rv r := by
      rcases Nat.eq_zero_or_pos (rv r) with h | h
      · have := rv_pos.1 h; omega
      · exact h
    have h2 : 0 < mid (r - 1) := by unfold mid; rw [show r - 1 + 1 = r by omega]; omega
    have h3 : 0 < mid (r - 1) * decB10 (-((0 : Nat) : Int)) := Nat.mul_pos h2 (Nat.pow_pos (by decide))
    rcases h.low with h | h | h
    · omega
    · omega
    · omega
  · obtain ⟨R, h1, _⟩ := rung_whole h0 hc
    have h2 := own_in h1 0
    rw [Nat.pow_zero, Nat.mul_one] at h2
    have h3 := h.uniq (Nat.pow_pos (by decide)) h2
    subst h3
    rw [hrv] at h1
    exact (Nat.mul_right_cancel (Nat.two_pow_pos _) h1).symm
theorem cut_lin {F m W P : Nat} (h : F * P ≤ m * P + W) (hW : W < 10 * P) : F < m + 10 := by
  rcases Nat.lt_or_ge F (m + 10) with h1 | h1
  · exact h1
  · have := Nat.mul_le_mul_right P h1
    rw [Nat.add_mul] at this; omega
theorem cut_lin1 {F m W P : Nat} (h : F * P ≤ m * P + W) (hW : W < P) : F ≤ m := by
  rcases Nat.lt_or_ge m F with h1 | h1
  · have := Nat.mul_le_mul_right P (show m + 1 ≤ F from h1)
    rw [Nat.add_mul, Nat.one_mul] at this; omega
  · exact h1
/-- THE DIGITS OF A WHOLE NUMBER. -/
theorem short_whole {r n : Nat} (hn : 0 < n) (hn2 : n < 9007199254740992) (hrv : rv r = n * 2 ^ 1074) (hr : r < 9218868437227405312) :
    (∃ f : Nat, 0 < f ∧ shortN r = (n * 10 ^ (f - 1), 1 - (f : Int))) ∨ (n % 10 = 0 ∧ shortN r = (n / 10, 1)) ∨ shortN r = (n, 0) := by
  have hr0 : 0 < r := by
    rcases Nat.eq_zero_or_pos r with h | h
    · rw [h] at hrv
      exact (rv_ne hn hrv).elim
    · exact h
  have hrk := rK_whole hn2 hrv
  obtain ⟨f, hf, hw⟩ := fP_whole hn2 hrv
  have hiff := fun c => short_iff hr0 hr c
  rw [hf] at hiff
  have hm := (hiff _).1 (own_in hrv f)
  have hF := up_bound ((hiff (fMax r)).2 ⟨Nat.le_trans hm.1 hm.2, Nat.le_refl _⟩)
  have hmid : mid r * 10 ^ f = n * 10 ^ f * 2 ^ 1075 + 2 ^ rK r * 10 ^ f := by
    have e : mid r = 2 * (n * 2 ^ 1074) + 2 ^ rK r := by rw [mid_high, Nat.add_mul, Nat.one_mul, Nat.mul_assoc 2, ← rv_split, hrv]
    rw [e, two_pw n 1074 1075 rfl, Nat.add_mul, Nat.mul_right_comm]
  rw [hmid] at hF
  have hF10 := cut_lin hF hw
  unfold shortN
  rw [hf]
  rcases Nat.eq_zero_or_pos f with h0 | h0
  · subst h0
    have hP : 2 ^ rK r * 10 ^ 0 < 2 ^ 1075 := by
      rw [Nat.pow_zero, Nat.mul_one]; exact pow_up (a := rK r) (b := 1075) hrk
    have hFn := cut_lin1 hF hP
    rw [Nat.pow_zero, Nat.mul_one] at hm hFn
    clear hF hP hw hmid hF10
    right
    have hFe : fMax r = n := by omega
    rw [hFe]
    rw [hFe] at hiff hm
    by_cases h1 : fMin r ≤ n / 10 * 10
    · have h2 := only_one hr0 hrv (c := n / 10 * 10) (by omega) ((hiff _).2 ⟨h1, by omega⟩)
      rw [if_pos h1]
      exact .inl ⟨by omega, rfl⟩
    · rw [if_neg h1]
      by_cases h2 : fMin r < n
      · have h3 := only_one hr0 hrv (c := n - 1) (by omega) ((hiff _).2 ⟨by omega, by omega⟩)
        omega
      · rw [if_neg h2]
        right
        rw [show fMin r = n by omega]; rfl
  · left
    refine ⟨f, h0, ?_⟩
    obtain ⟨g, hg⟩ : ∃ g, f = g + 1 := ⟨f - 1, by omega⟩
    subst hg
    have e : n * 10 ^ (g + 1) = n * 10 ^ g * 10 := by rw [Nat.pow_succ, Nat.mul_assoc]
    rw [e] at hm hF10
    have hq : fMax r / 10 = n * 10 ^ g := by
      clear hF hw hmid hiff hrv hf
      omega
    rw [hq, if_pos hm.1]
    rfl
end Go.Proofs.YtgpfjhligiapdaaGreatDoor
