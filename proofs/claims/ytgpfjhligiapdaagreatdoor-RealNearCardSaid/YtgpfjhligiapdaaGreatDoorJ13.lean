/- The digits that are written of a whole number below 2 to the power of 53 are its own: plain. -/
import Derived.Test.YtgpfjhligiapdaaGreatDoorExP
import Derived.Test.YtgpfjhligiapdaaGreatDoorJ12
import Derived.Test.YtgpfjhligiapdaaGreatDoorAtofM
import Derived.Test.YtgpfjhligiapdaaGreatDoorRParse

namespace Go.Proofs.YtgpfjhligiapdaaGreatDoor

theorem pow_up {a b : Nat} (h : a < b) : 2 ^ a < 2 ^ b := Nat.pow_lt_pow_right (by decide) h
theorem pw4 (n T c e : Nat) (h : e = c + 1) : 2 * (n * 2 ^ c) * T = n * T * 10 ^ 0 * 2 ^ e := by
  rw [h, Nat.pow_zero, Nat.mul_one, Nat.pow_succ]
  simp only [Nat.mul_assoc, Nat.mul_left_comm, Nat.mul_comm]
theorem own_in {r n : Nat} (hrv : rv r = n * 2 ^ 1074) (f : Nat) : InI r (decA (n * 10 ^ f) (-(f : Int))) (decB10 (-(f : Int))) := by
  have hb : 0 < decB10 (-(f : Int)) := Nat.pow_pos (by decide)
  refine (InI.cross Nat.one_pos hb ?_).1 InI.self
  unfold decA
  rw [hrv, (ten_at f).1, (ten_at f).2.2.1, Nat.mul_one]
  exact pw4 n (10 ^ f) 1074 Go.Proofs.YtgpfjhligiapdaaGreatDoor.hp rfl
theorem up_bound {r c f : Nat} (h : InI r (decA c (-(f : Int))) (decB10 (-(f : Int)))) : c * 2 ^ 1075 ≤ mid r * 10 ^ f := by
  have h1 : decA c (-(f : Int)) ≤ mid r * decB10 (-(f : Int)) := by
    rcases h.high with h | h
    · exact Nat.le_of_lt h
    · exact Nat.le_of_eq h.1
  unfold decA at h1
  rw [(ten_at f).1, (ten_at f).2.2.1, Nat.pow_zero, Nat.mul_one, show Go.Proofs.YtgpfjhligiapdaaGreatDoor.hp = 1075 from rfl] at h1
  exact h1
theorem wid_l : allN 1075 (fun k => decide (0 ≤ -l10p2 (k - 1074)) && decide (2 ^ k * 10 ^ (-l10p2 (k - 1074)).toNat < 10 * 2 ^ 1075) && decide (1 ≤ -skewF (k - 1074)) && decide (2 ^ k * 10 ^ (-skewF (k - 1074)).toNat < 10 * 2 ^ 1075)) = true := by decide +kernel
theorem rK_whole {r n : Nat} (hn2 : n < 9007199254740992) (hrv : rv r = n * 2 ^ 1074) : rK r < 1075 := by
  rcases Nat.lt_or_ge (rK r) 1075 with h | h
  · exact h
  · exfalso
    obtain ⟨h1, h2, h3⟩ := rung_split r
    have hm : 4503599627370496 ≤ rM r := by omega
    rw [rv_split] at hrv
    have h4 := pw_le hm h
    rw [hrv] at h4
    have h5 : 4503599627370496 * 2 ^ 1075 = 9007199254740992 * 2 ^ 1074 := by decide +kernel
    rw [h5] at h4
    have h6 := Nat.le_of_mul_le_mul_right h4 (Nat.two_pow_pos 1074)
    clear h4 h5 hrv
    omega
theorem fP_whole {r n : Nat} (hn2 : n < 9007199254740992) (hrv : rv r = n * 2 ^ 1074) : ∃ f : Nat, fP r = (f : Int) ∧ 2 ^ rK r * 10 ^ f < 10 * 2 ^ 1075 := by
  have h := allN_at wid_l _ (rK_whole hn2 hrv)
  simp only [Bool.and_eq_true, decide_eq_true_eq] at h
  obtain ⟨⟨⟨h1, h2⟩, h3⟩, h4⟩ := h
  unfold fP
  cases skewB r
  · exact ⟨_, (Int.toNat_of_nonneg h1).symm, h2⟩
  · exact ⟨_, (Int.toNat_of_nonneg (Int.le_trans (by decide) h3)).symm, h4⟩
/-- A whole number between the bounds is the number itself. -/
theorem only_one {r n c : Nat} (hr0 : 0 < r) (hrv : rv r = n * 2 ^ 1074) (hc : c < 9007199254740992) (h : InI r (decA c (-((0 : Nat) : Int))) (decB10 (-((0 : Nat) : Int)))) : c = n := by
  rcases Nat.eq_zero_or_pos c with h0 | h0
  · exfalso
    have e : decA c (-((0 : Nat) : Int)) = 0 := by rw [h0]; unfold decA; rw [Nat.zero_mul, Nat.zero_mul]
    rw [e] at h
    have h1 : 0 < rv r := by
      rcases Nat.eq_zero_or_pos (rv r) with h | h
      · have := rv_pos.1 h; omega
      · exact h
    have h2 : 0 < mid (r - 1) := by unfold mid; rw [show r - 1 + 1 = r by omega]; omega
    have h3 : 0 < mid (r - 1) * decB10 (-((0 : Nat) : Int)) := Nat.mul_pos h2 (Nat.pow_pos (by decide))
    rcases h.low with h | h | h
    · omega
    · omega
    · omega
  · obtain ⟨R, h1, _⟩ := rung_whole h0 hc
    have h2 := own_in h1 0
    rw [Nat.pow_zero, Nat.mul_one] at h2
    have h3 := h.uniq (Nat.pow_pos (by decide)) h2
    subst h3
    rw [hrv] at h1
    exact (Nat.mul_right_cancel (Nat.two_pow_pos _) h1).symm
theorem cut_lin {F m W P : Nat} (h : F * P ≤ m * P + W) (hW : W < 10 * P) : F < m + 10 := by
  rcases Nat.lt_or_ge F (m + 10) with h1 | h1
  · exact h1
  · have := Nat.mul_le_mul_right P h1
    rw [Nat.add_mul] at this; omega
theorem cut_lin1 {F m W P : Nat} (h : F * P ≤ m * P + W) (hW : W < P) : F ≤ m := by
  rcases Nat.lt_or_ge m F with h1 | h1
  · have := Nat.mul_le_mul_right P (show m + 1 ≤ F from h1)
    rw [Nat.add_mul, Nat.one_mul] at this; omega
  · exact h1
/-- THE DIGITS OF A WHOLE NUMBER. -/
theorem short_whole {r n : Nat} (hn : 0 < n) (hn2 : n < 9007199254740992) (hrv : rv r = n * 2 ^ 1074) (hr : r < 9218868437227405312) :
    (∃ f : Nat, 0 < f ∧ shortN r = (n * 10 ^ (f - 1), 1 - (f : Int))) ∨ (n % 10 = 0 ∧ shortN r = (n / 10, 1)) ∨ shortN r = (n, 0) := by
  have hr0 : 0 < r := by
    rcases Nat.eq_zero_or_pos r with h | h
    · rw [h] at hrv
      exact (rv_ne hn hrv).elim
    · exact h
  have hrk := rK_whole hn2 hrv
  obtain ⟨f, hf, hw⟩ := fP_whole hn2 hrv
  have hiff := fun c => short_iff hr0 hr c
  rw [hf] at hiff
  have hm := (hiff _).1 (own_in hrv f)
  have hF := up_bound ((hiff (fMax r)).2 ⟨Nat.le_trans hm.1 hm.2, Nat.le_refl _⟩)
  have hmid : mid r * 10 ^ f = n * 10 ^ f * 2 ^ 1075 + 2 ^ rK r * 10 ^ f := by
    have e : mid r = 2 * (n * 2 ^ 1074) + 2 ^ rK r := by rw [mid_high, Nat.add_mul, Nat.one_mul, Nat.mul_assoc 2, ← rv_split, hrv]
    rw [e, two_pw n 1074 1075 rfl, Nat.add_mul, Nat.mul_right_comm]
  rw [hmid] at hF
  have hF10 := cut_lin hF hw
  unfold shortN
  rw [hf]
  rcases Nat.eq_zero_or_pos f with h0 | h0
  · subst h0
    have hP : 2 ^ rK r * 10 ^ 0 < 2 ^ 1075 := by
      rw [Nat.pow_zero, Nat.mul_one]; exact pow_up (a := rK r) (b := 1075) hrk
    have hFn := cut_lin1 hF hP
    rw [Nat.pow_zero, Nat.mul_one] at hm hFn
    clear hF hP hw hmid hF10
    right
    have hFe : fMax r = n := by omega
    rw [hFe]
    rw [hFe] at hiff hm
    by_cases h1 : fMin r ≤ n / 10 * 10
    · have h2 := only_one hr0 hrv (c := n / 10 * 10) (by omega) ((hiff _).2 ⟨h1, by omega⟩)
      rw [if_pos h1]
      exact .inl ⟨by omega, rfl⟩
    · rw [if_neg h1]
      by_cases h2 : fMin r < n
      · have h3 := only_one hr0 hrv (c := n - 1) (by omega) ((hiff _).2 ⟨by omega, by omega⟩)
        omega
      · rw [if_neg h2]
        right
        rw [show fMin r = n by omega]; rfl
  · left
    refine ⟨f, h0, ?_⟩
    obtain ⟨g, hg⟩ : ∃ g, f = g + 1 := ⟨f - 1, by omega⟩
    subst hg
    have e : n * 10 ^ (g + 1) = n * 10 ^ g * 10 := by rw [Nat.pow_succ, Nat.mul_assoc]
    rw [e] at hm hF10
    have hq : fMax r / 10 = n * 10 ^ g := by
      clear hF hw hmid hiff hrv hf
      omega
    rw [hq, if_pos hm.1]
    rfl
end Go.Proofs.YtgpfjhligiapdaaGreatDoor

/- The text of a whole number is its own digits: plain. -/
namespace Go.Proofs.YtgpfjhligiapdaaGreatDoor

theorem dec_ten {n : Nat} (h : 0 < n) : Lib.decDigits (n * 10) = Lib.decDigits n ++ [48] := by
  rw [Lib.decDigits, dif_neg (by omega), show n * 10 / 10 = n by omega, show n * 10 % 10 = 0 by omega]; rfl
theorem dec_tens {n : Nat} (h : 0 < n) : ∀ k : Nat, Lib.decDigits (n * 10 ^ k) = Lib.decDigits n ++ List.replicate k 48
  | 0 => by simp
  | k + 1 => by
    rw [Nat.pow_succ, ← Nat.mul_assoc, dec_ten (Nat.mul_pos h (Nat.pow_pos (by decide))), dec_tens h k, List.append_assoc, List.replicate_succ']
theorem strip_app (l : List UInt8) : ∀ k : Nat, stripZ (l ++ List.replicate k 48) = stripZ l
  | 0 => by simp
  | k + 1 => by
    rw [List.replicate_succ', ← List.append_assoc]
    unfold stripZ
    rw [List.reverse_append, List.reverse_singleton, List.singleton_append, List.dropWhile_cons_of_pos (by rfl)]
    exact strip_app l k
theorem nDigits_tens {n : Nat} (h : 0 < n) (k : Nat) : Lib.nDigits (n * 10 ^ k) = Lib.nDigits n + k := by
  rw [← Lib.decDigits_length, dec_tens h k, List.length_append, Lib.decDigits_length, List.length_replicate]
/-- Its digits, and where the point stands. -/
theorem whole_digits {r n : Nat} (hn : 0 < n) (hr0 : 0 < r) (h : (∃ f : Nat, 0 < f ∧ shortN r = (n * 10 ^ (f - 1), 1 - (f : Int))) ∨ (n % 10 = 0 ∧ shortN r = (n / 10, 1)) ∨ shortN r = (n, 0)) :
    digL r = stripZ (Lib.decDigits n) ∧ pointN r = (Lib.nDigits n : Int) := by
  unfold digL pointN
  rw [if_neg (by omega), if_neg (by omega)]
  rcases h with ⟨f, hf, h⟩ | ⟨h0, h⟩ | h
  · rw [h]
    dsimp only
    rw [dec_tens hn, strip_app, nDigits_tens hn]
    exact ⟨rfl, by omega⟩
  · rw [h]
    dsimp only
    have e : n = n / 10 * 10 ^ 1 := by omega
    have h1 : 0 < n / 10 := by omega
    have e2 := dec_tens h1 1
    have e3 := nDigits_tens h1 1
    rw [← e] at e2 e3
    rw [e2, strip_app, e3]
    exact ⟨rfl, by omega⟩
  · rw [h]; exact ⟨rfl, by simp⟩
theorem whole_effF {n : Nat} (neg : Bool) : effF neg (stripZ (Lib.decDigits n)) (Lib.nDigits n : Int) = signL neg ++ Lib.decDigits n := by
  obtain ⟨k, hk⟩ := stripZ_eq (Lib.decDigits n)
  have hl := congrArg List.length hk
  rw [Lib.decDigits_length, List.length_append, List.length_replicate] at hl
  have hp := Lib.nDigits_pos n
  unfold effF
  rw [if_pos (by omega), if_neg (by omega), List.append_nil, Int.toNat_natCast, List.take_of_length_le (by omega), show Lib.nDigits n - (stripZ (Lib.decDigits n)).length = k by omega, ← hk]
/-- THE TEXT OF A WHOLE NUMBER. -/
theorem whole_text {r n : Nat} (neg : Bool) (hn : 0 < n) (hn2 : n < 9007199254740992) (hrv : rv r = n * 2 ^ 1074) (hr : r < 9218868437227405312) (hr0 : 0 < r) :
    realL ((if neg then 9223372036854775808 else 0) + r) = signL neg ++ Lib.decDigits n := by
  obtain ⟨h1, h2⟩ := whole_digits hn hr0 (short_whole hn hn2 hrv hr)
  obtain ⟨b, hb⟩ : ∃ b, b = (if neg then 9223372036854775808 else 0) + r := ⟨_, rfl⟩
  rw [← hb]
  clear hrv
  have hm : b % 9223372036854775808 = r := by split at hb <;> omega
  have hs : decide (9223372036854775808 ≤ b) = neg := by cases neg <;> simp at hb ⊢ <;> omega
  have hnn : nanF b = false := by unfold nanF; rw [hm, decide_eq_false_iff_not]; omega
  unfold realL
  rw [hnn, hm, hs, if_neg (by decide), if_neg (by omega), h1, h2]
  dsimp only
  have h16 : Lib.nDigits n ≤ 16 := nDig_le 15 n (Nat.lt_trans hn2 (by decide))
  have hp := Lib.nDigits_pos n
  rw [if_neg ?_, whole_effF]
  split <;> omega
end Go.Proofs.YtgpfjhligiapdaaGreatDoor

/- real.Parse at the digits of a whole number. -/
namespace Go.Proofs.YtgpfjhligiapdaaGreatDoor
open Go.RowKit

/-- strconv.ParseFloat answers what atof64 does, where that is no error (and the world may have grown). -/
theorem sparse_okB {s : ByteArray} {r : Nat} {w : World} (h : Calls Tryz.prog 52 #[.string s] w fun e w' => e = .returned (.tuple #[.float .f64 r, .int .i64 (s.size : Int), .nilIface]) ∧ Below w.heap.size w w') :
    Calls Tryz.prog 23 #[.string s, .int .i64 64] w fun e w' => e = .returned (.tuple #[.float .f64 r, .nilIface]) ∧ Below w.heap.size w w' := by
  have h2 : Calls Tryz.prog 42 #[.string s, .int .i64 64] w fun e w' => e = .returned (.tuple #[.float .f64 r, .int .i64 (s.size : Int), .nilIface]) ∧ Below w.heap.size w w' := by
    replace h := Lib.hid h
    go_enter Tryz.func42, Tryz.ntmps42
    go_wp2_with fail
    refine h.out.mono ?_
    rintro e w' ⟨rfl, hww⟩
    go_wp2
    exact bodyPost_ret (v := .tuple #[.float .f64 r, .int .i64 (s.size : Int), .nilIface]) (by simp [results, Tryz.results42, go_sem]) rfl ⟨rfl, hww⟩
  have h3 : Calls Tryz.prog 35 #[.string s, .int .i64 64] w fun e w' => e = .returned (.tuple #[.float .f64 r, .nilIface]) ∧ Below w.heap.size w w' := by
    replace h2 := Lib.hid h2
    clear h
    have hbs : ((s.size : Int) != (s.size : Int)) = false := by simp
    go_enter Tryz.func35, Tryz.ntmps35
    go_wp2_with fail
    refine h2.out.mono ?_
    rintro e w' ⟨rfl, hww⟩
    go_wp2
    go_ret2
    exact ⟨rfl, hww⟩
  replace h3 := Lib.hid h3
  clear h h2
  go_enter Tryz.func23, Tryz.ntmps23
  go_wp2_with fail
  refine h3.out.mono ?_
  rintro e w' ⟨rfl, hww⟩
  go_wp2
  go_ret2
  exact ⟨rfl, hww⟩
set_option maxRecDepth 100000 in
set_option maxHeartbeats 1600000 in
theorem parse_numB {s : ByteArray} {neg : Bool} {c : UInt8} {l : List UInt8} {r : Nat} {w : World} (h : s.data.toList = (if neg then [45] else []) ++ c :: l) (hc : isD c = true) (hs : s.size ≤ 64) (hr : rightL s.data.toList = true)
    (hp : ∀ w', Below w.heap.size w w' → Calls Tryz.prog 23 #[.string s, .int .i64 64] w' fun e w'' => e = .returned (.tuple #[.float .f64 r, .nilIface]) ∧ Below w'.heap.size w' w'') :
    Calls Tryz.prog 10 #[.string s] w fun e w' => e = .returned (.tuple #[.float .f64 r, .int .i64 0]) ∧ Below w.heap.size w w' := by
  obtain ⟨k1, k2, k3⟩ := num_head h hc
  have hra := right_any (s := s) (by omega) w
  rw [hr] at hra
  have hsz : ¬ (64 : Int) < (s.size : Int) := by omega
  replace hra := Lib.hid hra
  replace hp := Lib.hid hp
  clear h hc hr
  go_enter Tryz.func10, Tryz.ntmps10
  go_wp2_with fail
  refine hra.out.mono ?_
  rintro e w1 ⟨rfl, hb⟩
  have hp1 := hp.out w1 hb
  replace hp1 := Lib.hid hp1
  go_wp2_with fail
  refine hp1.out.mono ?_
  rintro e w2 ⟨rfl, hww⟩
  go_wp2
  go_ret2
  exact ⟨rfl, hb.trans (hww.mono hb.size)⟩
theorem whole_mant {n : Nat} (hn : 0 < n) (h : Lib.nDigits n ≤ 19) : mantF (Lib.decDigits n) = n ∧ truncF (Lib.decDigits n) = false ∧ ndF (Lib.decDigits n) = Lib.nDigits n := by
  unfold mantF truncF ndF
  rw [dec_strip hn, List.take_of_length_le (by rw [Lib.decDigits_length]; exact h), dec_val, List.drop_eq_nil_of_le (by rw [Lib.decDigits_length]; exact h), Lib.decDigits_length]
  exact ⟨rfl, rfl, rfl⟩
theorem dec_cons (n : Nat) : ∃ c l, Lib.decDigits n = c :: l ∧ isD c = true := by
  cases h : Lib.decDigits n with
  | nil => exact absurd h (dec_nil n)
  | cons c l => exact ⟨c, l, rfl, dec_isD n c (by rw [h]; exact List.mem_cons_self ..)⟩
theorem whole_form {s : ByteArray} {neg : Bool} {n : Nat} (hs : s.data.toList = signL neg ++ Lib.decDigits n) (h : Lib.nDigits n ≤ 19) : FTxt s neg false (Lib.decDigits n) (Lib.nDigits n) 0 := by
  obtain ⟨c, l, hcl, hc⟩ := dec_cons n
  refine ⟨⟨c, l, [], ?_, hc, ?_, .none, ?_⟩, ?_, dec_nil n⟩
  · rw [hs, hcl]; rfl
  · rw [← hcl]
    have := scanM_digits (D := Lib.decDigits n) (l := []) (d := false) (L := []) (m := 0) (dec_isD n)
    rw [List.append_nil] at this
    rw [this, scanM, List.nil_append, Nat.zero_add, Lib.decDigits_length]
  · intro b hb
    rw [← hcl] at hb
    exact .inl (dec_isD n b hb)
  · rw [size_list, hs, List.length_append, Lib.decDigits_length]
    cases neg <;> simp [signL] <;> omega
theorem nD_all : ∀ {l : List UInt8}, (∀ c ∈ l, isD c = true) → nD l = l.length
  | [], _ => rfl
  | c :: l, h => by
    unfold nD
    rw [List.takeWhile_cons_of_pos (h c (List.mem_cons_self ..)), List.length_cons, List.length_cons]
    congr 1
    exact nD_all (fun x hx => h x (List.mem_cons_of_mem _ hx))
theorem whole_right (neg : Bool) (n : Nat) : rightL (signL neg ++ Lib.decDigits n) = true := by
  obtain ⟨c, l, hcl, hc⟩ := dec_cons n
  have h45 : ¬ c ∈ [45] := fun h => by
    rw [List.mem_singleton] at h
    rw [h] at hc; exact absurd hc (by decide)
  have ha : afterL [45] (signL neg ++ Lib.decDigits n) = Lib.decDigits n := by
    rw [hcl]
    cases neg
    · exact afterL_neg h45
    · exact afterL_pos (by decide)
  unfold rightL
  dsimp only
  rw [ha, nD_all (dec_isD n), List.drop_length]
  have : 0 < (Lib.decDigits n).length := by rw [hcl]; simp
  rw [decide_eq_true this]
  rfl
/-- A WHOLE NUMBER'S DIGITS ARE READ AS THAT NUMBER. -/
theorem parse_whole {s : ByteArray} {neg : Bool} {n r : Nat} (hn : 0 < n) (hn2 : n < 10000000000000000) (hs : s.data.toList = signL neg ++ Lib.decDigits n) (hrv : rv r = n * 2 ^ 1074) (hr : r < 9218868437227405312) {w : World} (hP : Par w) (hF : Flo w) :
    Calls Tryz.prog 10 #[.string s] w fun e w' => e = .returned (.tuple #[.float .f64 (sgB neg + r), .int .i64 0]) ∧ Below w.heap.size w w' := by
  have h16 : Lib.nDigits n ≤ 16 := nDig_le 15 n (Nat.lt_of_lt_of_le hn2 (by decide))
  obtain ⟨c, l, hcl, hc⟩ := dec_cons n
  have hsz : s.size ≤ 64 := by
    rw [size_list, hs, List.length_append, Lib.decDigits_length]
    cases neg <;> simp [signL] <;> omega
  obtain ⟨m1, m2, m3⟩ := whole_mant hn (by omega)
  have hown := own_in hrv 0
  rw [Nat.pow_zero, Nat.mul_one] at hown
  refine parse_numB (neg := neg) (c := c) (l := l) (by rw [hs, hcl]; rfl) hc hsz (by rw [hs]; exact whole_right neg n) fun w' hb => ?_
  refine sparse_okB ?_
  have hx : expF false (Lib.decDigits n) (Lib.nDigits n) 0 = 0 := by
    unfold expF
    rw [m1, m3, if_neg (by omega), if_neg (by decide)]
    omega
  have hat := atof_mid (whole_form hs (by omega)) (by rw [m1]; exact hn) (by rw [m1]; omega) m2 hx (by decide) (by decide) (hP.below hb) (hF.below hb).pows
  refine hat.mono ?_
  rintro e w'' ⟨R, hI, he, hb2⟩
  rw [m1] at hI
  have hR : R = r := hI.uniq (Nat.pow_pos (by decide)) hown
  subst hR
  have hne : ¬ R = 9218868437227405312 := by clear hrv; omega
  rw [Nat.min_eq_left (Nat.le_of_lt hr)] at he
  unfold rngErr at he
  rw [if_neg hne] at he
  exact ⟨he, hb2⟩
end Go.Proofs.YtgpfjhligiapdaaGreatDoor
