/- A number's text but its sign (no program in sight but for what came ahead). -/
import Derived.Test.YtgpfjhligiapdaaGreatDoorRTxt
import Derived.Test.YtgpfjhligiapdaaGreatDoorWhoP

namespace Go.Proofs.YtgpfjhligiapdaaGreatDoor

/-- A number's text but its sign. -/
def bareL (r : Nat) : List UInt8 := if r = 9218868437227405312 then [105, 110, 102] else if expN r < -4 ∨ 21 ≤ expN r then effE false (digL r) (pointN r) else effF false (digL r) (pointN r)
theorem effE_sign (neg : Bool) (D : List UInt8) (dp : Int) : effE neg D dp = signL neg ++ effE false D dp := by unfold effE; simp [signL]
theorem effF_sign (neg : Bool) (D : List UInt8) (dp : Int) : effF neg D dp = signL neg ++ effF false D dp := by unfold effF; simp [signL]
theorem realL_bare {n : Nat} (hn : nanF n = false) : realL n = signL (decide (9223372036854775808 ≤ n)) ++ bareL (n % 9223372036854775808) := by
  by_cases h : n % 9223372036854775808 = 9218868437227405312
  · rw [realL_inf hn h]; unfold bareL; rw [if_pos h]
  · rw [realL_num hn h]; unfold bareL; rw [if_neg h]
    split
    · exact effE_sign _ _ _
    · exact effF_sign _ _ _
theorem effE_len (neg : Bool) (D : List UInt8) (dp : Int) : (effE neg D dp).length ≤ 10 + D.length := by
  rw [effE_front, List.length_append, List.length_cons]
  have h1 := front_len neg D
  have h2 := expL_len (if D = [] then 0 else dp - 1)
  omega
theorem effF_len (neg : Bool) (D : List UInt8) (dp : Int) (h0 : -400 ≤ dp) (h1 : dp ≤ 400) : (effF neg D dp).length ≤ 1000 + 2 * D.length := by
  unfold effF
  rw [List.length_append, List.length_append]
  have e0 : (signL neg).length ≤ 1 := by unfold signL; split <;> simp
  have e1 : (if 0 < dp then D.take dp.toNat ++ List.replicate (dp.toNat - D.length) 48 else [48] : List UInt8).length ≤ 401 + D.length := by
    split
    · rw [List.length_append, List.length_replicate, List.length_take]; omega
    · simp; omega
  have e2 : (if dp < D.length then 46 :: (List.replicate (-dp).toNat 48 ++ D.drop dp.toNat) else [] : List UInt8).length ≤ 401 + D.length := by
    split
    · rw [List.length_cons, List.length_append, List.length_replicate, List.length_drop]; omega
    · simp
  omega
theorem bareL_len {r : Nat} (h : r ≤ 9218868437227405312) : (bareL r).length ≤ 1100 := by
  unfold bareL
  split
  · simp
  · have h1 := digL_len r (by omega)
    have h2 := point_bounds (r := r) (by omega)
    split
    · have := effE_len false (digL r) (pointN r); omega
    · have := effF_len false (digL r) (pointN r) h2.1 h2.2; omega
theorem nDig_le : ∀ k u : Nat, u < 10 ^ (k + 1) → Lib.nDigits u ≤ k + 1
  | 0, u, h => by rw [Lib.nDigits_small (by simpa using h)]; exact Nat.le_refl _
  | k + 1, u, h => by
    by_cases h1 : u < 10
    · rw [Lib.nDigits_small h1]; omega
    · rw [Lib.nDigits_big h1]
      have := nDig_le k (u / 10) (by rw [Nat.pow_succ] at h; omega)
      omega
end Go.Proofs.YtgpfjhligiapdaaGreatDoor

/- The text of a whole number is its own digits: plain. -/
namespace Go.Proofs.YtgpfjhligiapdaaGreatDoor

theorem dec_ten {n : Nat} (h : 0 < n) : Lib.decDigits (n * 10) = Lib.decDigits n ++ [48] := by
  rw [Lib.decDigits, dif_neg (by omega), show n * 10 / 10 = n by omega, show n * 10 % 10 = 0 by omega]; rfl
theorem dec_tens {n : Nat} (h : 0 < n) : ∀ k : Nat, Lib.decDigits (n * 10 ^ k) = Lib.decDigits n ++ List.replicate k 48
  | 0 => by simp
  | k + 1 => by
    rw [Nat.pow_succ, ← Nat.mul_assoc, dec_ten (Nat.mul_pos h (Nat.pow_pos (by decide))), dec_tens h k, List.append_assoc, List.replicate_succ']
theorem strip_app (l : List UInt8) : ∀ k : Nat, stripZ (l ++ List.replicate k 48) = stripZ l
  | 0 => by simp
  | k + 1 => by
    rw [List.replicate_succ', ← List.append_assoc]
    unfold stripZ
    rw [List.reverse_append, List.reverse_singleton, List.singleton_append, List.dropWhile_cons_of_pos (by rfl)]
    exact strip_app l k
theorem nDigits_tens {n : Nat} (h : 0 < n) (k : Nat) : Lib.nDigits (n * 10 ^ k) = Lib.nDigits n + k := by
  rw [← Lib.decDigits_length, dec_tens h k, List.length_append, Lib.decDigits_length, List.length_replicate]
/-- Its digits, and where the point stands. -/
theorem whole_digits {r n : Nat} (hn : 0 < n) (hr0 : 0 < r) (h : (∃ f : Nat, 0 < f ∧ shortN r = (n * 10 ^ (f - 1), 1 - (f : Int))) ∨ (n % 10 = 0 ∧ shortN r = (n / 10, 1)) ∨ shortN r = (n, 0)) :
    digL r = stripZ (Lib.decDigits n) ∧ pointN r = (Lib.nDigits n : Int) := by
  unfold digL pointN
  rw [if_neg (by omega), if_neg (by omega)]
  rcases h with ⟨f, hf, h⟩ | ⟨h0, h⟩ | h
  · rw [h]
    dsimp only
    rw [dec_tens hn, strip_app, nDigits_tens hn]
    exact ⟨rfl, by omega⟩
  · rw [h]
    dsimp only
    have e : n = n / 10 * 10 ^ 1 := by omega
    have h1 : 0 < n / 10 := by omega
    have e2 := dec_tens h1 1
    have e3 := nDigits_tens h1 1
    rw [← e] at e2 e3
    rw [e2, strip_app, e3]
    exact ⟨rfl, by omega⟩
  · rw [h]; exact ⟨rfl, by simp⟩
theorem whole_effF {n : Nat} (neg : Bool) : effF neg (stripZ (Lib.decDigits n)) (Lib.nDigits n : Int) = signL neg ++ Lib.decDigits n := by
  obtain ⟨k, hk⟩ := stripZ_eq (Lib.decDigits n)
  have hl := congrArg List.length hk
  rw [Lib.decDigits_length, List.length_append, List.length_replicate] at hl
  have hp := Lib.nDigits_pos n
  unfold effF
  rw [if_pos (by omega), if_neg (by omega), List.append_nil, Int.toNat_natCast, List.take_of_length_le (by omega), show Lib.nDigits n - (stripZ (Lib.decDigits n)).length = k by omega, ← hk]
/-- THE TEXT OF A WHOLE NUMBER. -/
theorem whole_text {r n : Nat} (neg : Bool) (hn : 0 < n) (hn2 : n < 9007199254740992) (hrv : rv r = n * 2 ^ 1074) (hr : r < 9218868437227405312) (hr0 : 0 < r) :
    realL ((if neg then 9223372036854775808 else 0) + r) = signL neg ++ Lib.decDigits n := by
  obtain ⟨h1, h2⟩ := whole_digits hn hr0 (short_whole hn hn2 hrv hr)
  obtain ⟨b, hb⟩ : ∃ b, b = (if neg then 9223372036854775808 else 0) + r := ⟨_, rfl⟩
  rw [← hb]
  clear hrv
  have hm : b % 9223372036854775808 = r := by split at hb <;> omega
  have hs : decide (9223372036854775808 ≤ b) = neg := by cases neg <;> simp at hb ⊢ <;> omega
  have hnn : nanF b = false := by unfold nanF; rw [hm, decide_eq_false_iff_not]; omega
  unfold realL
  rw [hnn, hm, hs, if_neg (by decide), if_neg (by omega), h1, h2]
  dsimp only
  have h16 : Lib.nDigits n ≤ 16 := nDig_le 15 n (Nat.lt_trans hn2 (by decide))
  have hp := Lib.nDigits_pos n
  rw [if_neg ?_, whole_effF]
  split <;> omega
end Go.Proofs.YtgpfjhligiapdaaGreatDoor
