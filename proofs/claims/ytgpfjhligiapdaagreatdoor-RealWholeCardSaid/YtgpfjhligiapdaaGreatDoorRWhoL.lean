/- RealWhole: its walk. -/
import Derived.Test.YtgpfjhligiapdaaGreatDoorWhoW
import Derived.Test.YtgpfjhligiapdaaGreatDoorTx01
import Derived.Test.YtgpfjhligiapdaaGreatDoorRSumsL
namespace Go.Proofs.YtgpfjhligiapdaaGreatDoor
open Go.RowKit

/-- A whole number as a float. -/
theorem flt_whole {n r : Nat} (hn : 0 < n) (hrv : rv r = n * 2 ^ 1074) (hr : r < 9218868437227405312) (neg : Bool) : floatOfInt .f64 (if neg then -(n : Int) else (n : Int)) = sgB neg + r := by
  have e : floatOfInt .f64 (if neg then -(n : Int) else (n : Int)) = Ieee.double.nearest neg n 0 := by
    show Ieee.double.write (.number (decide ((if neg then -(n : Int) else (n : Int)) < 0)) (if neg then -(n : Int) else (n : Int)).natAbs 0) = _
    cases neg
    · rw [if_neg (by decide), decide_eq_false (by omega), Int.natAbs_natCast, write_num]
    · rw [if_pos rfl, decide_eq_true (by omega), Int.natAbs_neg, Int.natAbs_natCast, write_num]
  obtain ⟨R, h2, h3⟩ := nearest_inI neg hn 0
  have h5 : InI R (2 * rv r) 1 := by
    rw [show (0 + 1075 : Int).toNat = 1075 by rfl, show (-(0 + 1075 : Int)).toNat = 0 by rfl, Nat.pow_zero] at h3
    have : 2 * rv r = n * 2 ^ 1075 := by rw [hrv]; exact two_pw n 1074 1075 rfl
    rw [this]; exact h3
  have h6 := h5.uniq (by decide) InI.self
  rw [e, h2, h6, Nat.min_eq_left (Nat.le_of_lt hr), word_is]; rfl
theorem top_rv : rv 4845873199050653696 = 9007199254740992 * 2 ^ 1074 := by decide +kernel
theorem top_text : realL 4845873199050653696 = Lib.decDigits 9007199254740992 ∧ realL (9223372036854775808 + 4845873199050653696) = 45 :: Lib.decDigits 9007199254740992 := by decide +kernel
/-- Its rung, and its text. -/
theorem whole_rung {n : Nat} (hn : 0 < n) (hn2 : n ≤ 9007199254740992) : ∃ r, rv r = n * 2 ^ 1074 ∧ r < 9218868437227405312 ∧ ∀ neg, realL (sgB neg + r) = signL neg ++ Lib.decDigits n := by
  rcases Nat.eq_or_lt_of_le hn2 with h | h
  · subst h
    refine ⟨4845873199050653696, top_rv, by decide, fun neg => ?_⟩
    cases neg
    · exact top_text.1
    · exact top_text.2
  · obtain ⟨r, h1, h2⟩ := rung_whole hn h
    have h3 : 0 < r := by
      rcases Nat.eq_zero_or_pos r with h | h
      · rw [h] at h1
        exact (rv_ne hn h1).elim
      · exact h
    exact ⟨r, h1, h2, fun neg => whole_text neg hn h h1 h2 h3⟩
theorem sg_fin (neg : Bool) {r : Nat} (hr : r < 9218868437227405312) : sgB neg + r < 18446744073709551616 ∧ nanF (sgB neg + r) = false := by
  unfold sgB nanF
  rw [decide_eq_false_iff_not]
  cases neg <;> simp <;> omega
theorem itoa_list (neg : Bool) {n : Nat} (hn : 0 < n) : (itoaB (if neg then -(n : Int) else (n : Int))).data.toList = signL neg ++ Lib.decDigits n := by
  cases neg
  · show (Lib.itoa (n : Int)).toArray.toList = _
    rw [Lib.itoa, if_neg (by omega)]; rfl
  · show (Lib.itoa (-(n : Int))).toArray.toList = _
    rw [Lib.itoa, if_pos (by omega), show (-(n : Int)).natAbs = n by omega]; rfl
/-- Nought is read. -/
theorem parse_nought {w : World} (hP : Par w) (hs : ByteArray) (h : hs.data.toList = [48]) : Calls Tryz.prog 10 #[.string hs] w fun e w' => e = .returned (.tuple #[.float .f64 0, .int .i64 0]) ∧ Below w.heap.size w w' := by
  have hd : Lib.decDigits 0 = [48] := Lib.decDigits_one (by decide)
  refine parse_numB (neg := false) (c := 48) (l := []) h (by decide) (by rw [size_list, h]; decide) (by rw [h]; decide +kernel) fun w' hb => ?_
  refine sparse_okB ?_
  have hf := whole_form (s := hs) (neg := false) (n := 0) (by rw [h, hd]; rfl) (by decide +kernel)
  refine (atof_zero hf (by rw [hd]; decide +kernel) (hP.below hb)).mono ?_
  rintro e w'' ⟨he, rfl⟩
  exact ⟨he, Below.refl _ _⟩
set_option maxRecDepth 100000 in
set_option maxHeartbeats 3200000 in
theorem whole_in {n : Int} {F : Nat} (h0 : -9007199254740992 ≤ n) (h1 : n ≤ 9007199254740992) {w : World} (hF9 : F < 18446744073709551616) (hnn : nanF F = false) (hfl : floatOfInt .f64 n = F) (htx : realL F = (itoaB n).data.toList)
    (hp : ∀ w', Below w.heap.size w w' → Calls Tryz.prog 10 #[.string (itoaB n)] w' fun e w'' => e = .returned (.tuple #[.float .f64 F, .int .i64 0]) ∧ Below w'.heap.size w' w'') (hF : Flo w) (hP : Par w) :
    Calls Tryz.prog 3 #[.int .i64 n] w fun e w' => e = .returned (.bool true) ∧ Below w.heap.size w w' := by
  have hal := alive02_any hF hP
  have k1 : ¬ (9007199254740992 : Int) < n := by omega
  have k2 : ¬ n < -9007199254740992 := by omega
  have ht := text01_any n (by omega) (by omega)
  have hoe : (FloatKind.f64.format.order F F == some .eq) = true := by
    have := order_self hF9
    rw [hnn] at this
    exact this
  have hr := fun w' (h : Below w.heap.size w w') => realText_any (n := F) hF9 (hF.below h)
  obtain ⟨s, hs⟩ : ∃ s, s = itoaB n := ⟨_, rfl⟩
  rw [← hs] at ht hp htx
  replace hal := Lib.hid hal
  replace ht := Lib.hid ht
  replace hp := Lib.hid hp
  replace hr := Lib.hid hr
  replace htx := Lib.hid htx
  clear hF hP h0 h1 hs hnn hF9
  go_enter Tryz.func3, Tryz.ntmps3
  go_wp2_with fail
  refine hal.out.mono ?_
  rintro e w1 ⟨rfl, hb1⟩
  go_wp2_with fail
  refine (ht.out w1).mono ?_
  rintro e w2 ⟨rfl, hb2⟩
  have hb02 := hb1.trans (hb2.mono hb1.size)
  go_wp2_with fail
  refine (hp.out w2 hb02).mono ?_
  rintro e w3 ⟨rfl, hb3⟩
  have hb03 := hb02.trans (hb3.mono hb02.size)
  go_wp2_with fail
  refine (hr.out w3 hb03).mono ?_
  rintro e w4 ⟨t, rfl, hts, hb4⟩
  have hb04 := hb03.trans (hb4.mono hb03.size)
  go_wp2_with fail
  refine (ht.out w4).mono ?_
  rintro e w5 ⟨rfl, hb5⟩
  have hb05 := hb04.trans (hb5.mono hb04.size)
  have hst : t = s := ByteArray.ext (Array.toList_inj.1 (hts.trans htx.out))
  subst hst
  replace hb05 := Lib.hid hb05
  clear hb1 hb2 hb3 hb4 hb5 hb02 hb03 hb04 hts
  go_wp2
  go_ret
  exact ⟨rfl, hb05.out⟩
set_option maxRecDepth 100000 in
set_option maxHeartbeats 3200000 in
theorem whole_out {n : Int} (h : 9007199254740992 < n ∨ n < -9007199254740992) {w : World} (hF : Flo w) (hP : Par w) :
    Calls Tryz.prog 3 #[.int .i64 n] w fun e w' => e = .returned (.bool true) ∧ Below w.heap.size w w' := by
  have hal := alive02_any hF hP
  replace hal := Lib.hid hal
  clear hF hP
  rcases h with h | h
  · go_enter Tryz.func3, Tryz.ntmps3
    go_wp2_with fail
    refine hal.out.mono ?_
    rintro e w1 ⟨rfl, hb1⟩
    go_wp2
    go_ret
    exact ⟨rfl, hb1⟩
  · have k1 : ¬ (9007199254740992 : Int) < n := by omega
    go_enter Tryz.func3, Tryz.ntmps3
    go_wp2_with fail
    refine hal.out.mono ?_
    rintro e w1 ⟨rfl, hb1⟩
    go_wp2
    go_ret
    exact ⟨rfl, hb1⟩
theorem wholeL_some {m : Nat} {neg : Bool} (hm : 0 < m) (hm2 : m ≤ 9007199254740992) {w : World} (hF : Flo w) (hP : Par w) :
    Calls Tryz.prog 3 #[.int .i64 (if neg then -(m : Int) else (m : Int))] w fun e w' => e = .returned (.bool true) ∧ Below w.heap.size w w' := by
  obtain ⟨r, hrv, hr, htx⟩ := whole_rung hm hm2
  obtain ⟨f1, f2⟩ := sg_fin neg hr
  have hl := itoa_list neg hm
  refine whole_in ?_ ?_ f1 f2 (flt_whole hm hrv hr neg) (by rw [htx, hl]) (fun w' hb => parse_whole hm (Nat.lt_of_le_of_lt hm2 (by decide)) hl hrv hr (hP.below hb) (hF.below hb)) hF hP
  · clear hrv; cases neg <;> simp <;> omega
  · clear hrv; cases neg <;> simp <;> omega
theorem wholeL_any {n : Int} {w : World} (hF : Flo w) (hP : Par w) :
    Calls Tryz.prog 3 #[.int .i64 n] w fun e w' => e = .returned (.bool true) ∧ Below w.heap.size w w' := by
  by_cases h : 9007199254740992 < n ∨ n < -9007199254740992
  · exact whole_out h hF hP
  · rcases Int.lt_trichotomy n 0 with hn | hn | hn
    · have := wholeL_some (m := n.natAbs) (neg := true) (by omega) (by omega) hF hP
      rw [if_pos rfl, show -(n.natAbs : Int) = n by omega] at this
      exact this
    · subst hn
      have hz : (itoaB 0).data.toList = [48] := by
        show (Lib.itoa 0).toArray.toList = _
        rw [Lib.itoa, if_neg (by decide)]
        exact Lib.decDigits_one (by decide)
      exact whole_in (F := 0) (by decide) (by decide) (by decide) (by decide) (by decide +kernel) (by rw [hz]; decide +kernel) (fun w' hb => parse_nought (hP.below hb) _ hz) hF hP
    · have := wholeL_some (m := n.natAbs) (neg := false) (by omega) (by omega) hF hP
      rw [if_neg (by decide), show (n.natAbs : Int) = n by omega] at this
      exact this
end Go.Proofs.YtgpfjhligiapdaaGreatDoor
