/- real.Bits, real.Order, real.Same, real.Add; the chapter's example. -/
import Derived.Test.YtgpfjhligiapdaaGreatDoorRParse
namespace Go.Proofs.YtgpfjhligiapdaaGreatDoor
open Go.RowKit

theorem rBits_any {r : Nat} (h : r < 18446744073709551616) (w : World) : Calls Tryz.prog 17 #[.float .f64 r] w fun e w' => e = .returned (.int .u64 (canon r : Int)) ∧ w' = w := by
  have hf := mbits_run r
  have hn := isNaN_any h
  cases hnan : nanF r with
  | true =>
    have hc : canon r = nanC := (canon_nan r).2 hnan
    rw [hnan] at hn
    rw [hc]
    clear hnan hc
    go_enter Tryz.func17, Tryz.ntmps17
    go_wp2_with fail
    refine (hn _).mono ?_
    rintro e w' ⟨rfl, rfl⟩
    go_wp2
    go_ret
    exact ⟨rfl, rfl⟩
  | false =>
    have hc : canon r = r := by unfold canon; rw [hnan]; rfl
    rw [hnan] at hn
    rw [hc]
    clear hnan hc
    go_enter Tryz.func17, Tryz.ntmps17
    go_wp2_with fail
    refine (hn _).mono ?_
    rintro e w' ⟨rfl, rfl⟩
    go_wp2
    go_ret
    exact ⟨rfl, rfl⟩
theorem rank_any {r : Nat} (h : r < 18446744073709551616) (w : World) : Calls Tryz.prog 30 #[.float .f64 r] w fun e w' => e = .returned (.int .u64 (rankN r : Int)) ∧ w' = w := by
  have hb := rBits_any h
  obtain ⟨k, hk⟩ : ∃ k, k = canon r := ⟨_, rfl⟩
  have hk9 : k < 18446744073709551616 := by rw [hk]; exact canon_lt h
  rw [← hk] at hb
  obtain ⟨R, hR⟩ : ∃ R, R = rankN r := ⟨_, rfl⟩
  rw [← hR]
  replace hb := Lib.hid hb
  by_cases hn : nanF r = true
  · have e1 : (k : Int) = 9221120237041090561 := by rw [hk, (canon_nan r).2 hn]; rfl
    have e2 : (R : Int) = 18446744073709551615 := by rw [hR]; unfold rankN; rw [hn]; rfl
    replace e2 := Lib.hid e2
    clear hk hR
    go_enter Tryz.func30, Tryz.ntmps30
    go_wp2_with fail
    refine (hb.out _).mono ?_
    rintro e w' ⟨rfl, rfl⟩
    go_wp2
    go_ret
    exact ⟨by rw [e2.out]; rfl, rfl⟩
  · have hn' : nanF r = false := by simpa using hn
    have hkr : k = r := by rw [hk]; unfold canon; rw [hn']; rfl
    have e0 : ((k : Int) == 9221120237041090561) = false := beq_eq_false_iff_ne.2 (fun e => hn ((canon_nan r).1 (by rw [← hk]; unfold nanC; omega)))
    obtain ⟨q, hq⟩ : ∃ q : Nat, (k : Int) / 9223372036854775808 = (q : Int) := ⟨k / 9223372036854775808, by omega⟩
    by_cases hs : 9223372036854775808 ≤ r
    · have e1 : ((q : Int) == 1) = true := by simp; omega
      have e2 : R = 18446744073709551615 - k := by rw [hR, hkr]; unfold rankN; rw [hn']; simp [hs]
      have e3 : (18446744073709551615 : Int) - (k : Int) = (R : Int) := by omega
      have hxb : bits .xor .u64 IntKind.u64.max (k : Int) = (R : Int) := by
        show IntKind.u64.wrap (((BitVec.ofInt 64 18446744073709551615) ^^^ (BitVec.ofInt 64 (k : Int))).toNat : Int) = _
        have h1 : (BitVec.ofInt 64 18446744073709551615) ^^^ (BitVec.ofInt 64 (k : Int)) = ~~~(BitVec.ofInt 64 (k : Int)) := by
          have : BitVec.ofInt 64 18446744073709551615 = BitVec.allOnes 64 := by decide
          rw [this, BitVec.allOnes_xor]
        rw [h1, BitVec.toNat_not, toNat_ofInt64 k hk9]
        simp [IntKind.wrap, IntKind.bits, IntKind.signed]
        omega
      clear hR e2
      replace hk := Lib.hid hk
      replace hkr := Lib.hid hkr
      clear hn hn'
      go_enter Tryz.func30, Tryz.ntmps30
      go_wp2_with fail
      refine (hb.out _).mono ?_
      rintro e w' ⟨rfl, rfl⟩
      go_wp2
      go_ret
      exact ⟨rfl, rfl⟩
    · have e1 : ((q : Int) == 1) = false := beq_eq_false_iff_ne.2 (by omega)
      have e2 : R = k + 9223372036854775808 := by rw [hR, hkr]; unfold rankN; rw [hn']; simp [hs]
      have hor : bits .or .u64 (k : Int) 9223372036854775808 = (R : Int) := by
        have := bits_or64 (x := k) (y := 9223372036854775808) hk9 (by omega)
        rw [show k ||| 9223372036854775808 = R by rw [Nat.or_comm, e2, Nat.add_comm]; exact (Nat.two_pow_add_eq_or_of_lt (i := 63) (by omega : k < 2 ^ 63) 1).symm] at this
        exact this
      clear hR
      replace e2 := Lib.hid e2
      replace hk := Lib.hid hk
      replace hkr := Lib.hid hkr
      clear hn hn'
      go_enter Tryz.func30, Tryz.ntmps30
      go_wp2_with fail
      refine (hb.out _).mono ?_
      rintro e w' ⟨rfl, rfl⟩
      go_wp2
      go_ret
      exact ⟨rfl, rfl⟩
theorem cnan_any (x : Nat) (w : World) : Calls Tryz.prog 41 #[.int .u64 (x : Int)] w fun e w' => e = .returned (.bool false) ∧ w' = w := by
  have h : ((x : Int) != (x : Int)) = false := by simp
  go_enter Tryz.func41, Tryz.ntmps41
  go_wp2
  go_ret
  exact ⟨rfl, rfl⟩
theorem compare_any (x y : Nat) (w : World) : Calls Tryz.prog 29 #[.int .u64 (x : Int), .int .u64 (y : Int)] w fun e w' => e = .returned (.int .i64 (cmpN x y)) ∧ w' = w := by
  have h1 := cnan_any x
  have h2 := cnan_any y
  by_cases hlt : x < y
  · have e1 : cmpN x y = -1 := by unfold cmpN; rw [if_pos hlt]
    have k1 : (x : Int) < (y : Int) := by omega
    rw [e1]
    clear e1
    go_enter Tryz.func29, Tryz.ntmps29
    go_wp2_with fail
    refine (h1 _).mono ?_
    rintro e w' ⟨rfl, rfl⟩
    go_wp2_with fail
    refine (h2 _).mono ?_
    rintro e w' ⟨rfl, rfl⟩
    go_wp2
    go_ret
    exact ⟨rfl, rfl⟩
  · by_cases hgt : y < x
    · have e1 : cmpN x y = 1 := by unfold cmpN; rw [if_neg hlt, if_pos hgt]
      have k1 : ¬ (x : Int) < (y : Int) := by omega
      have k2 : (y : Int) < (x : Int) := by omega
      rw [e1]
      clear e1
      go_enter Tryz.func29, Tryz.ntmps29
      go_wp2_with fail
      refine (h1 _).mono ?_
      rintro e w' ⟨rfl, rfl⟩
      go_wp2_with fail
      refine (h2 _).mono ?_
      rintro e w' ⟨rfl, rfl⟩
      go_wp2
      go_ret
      exact ⟨rfl, rfl⟩
    · have e1 : cmpN x y = 0 := by unfold cmpN; rw [if_neg hlt, if_neg hgt]
      have k1 : ¬ (x : Int) < (y : Int) := by omega
      have k2 : ¬ (y : Int) < (x : Int) := by omega
      rw [e1]
      clear e1
      go_enter Tryz.func29, Tryz.ntmps29
      go_wp2_with fail
      refine (h1 _).mono ?_
      rintro e w' ⟨rfl, rfl⟩
      go_wp2_with fail
      refine (h2 _).mono ?_
      rintro e w' ⟨rfl, rfl⟩
      go_wp2
      go_ret
      exact ⟨rfl, rfl⟩
theorem order_any {a b : Nat} (ha : a < 18446744073709551616) (hb : b < 18446744073709551616) (w : World) : Calls Tryz.prog 15 #[.float .f64 a, .float .f64 b] w fun e w' => e = .returned (.int .i64 (cmpN (rankN a) (rankN b))) ∧ w' = w := by
  have h1 := rank_any ha
  have h2 := rank_any hb
  have h3 := compare_any (rankN a) (rankN b)
  replace h3 := Lib.hid h3
  go_enter Tryz.func15, Tryz.ntmps15
  go_wp2_with fail
  refine (h1 _).mono ?_
  rintro e w' ⟨rfl, rfl⟩
  go_wp2_with fail
  refine (h2 _).mono ?_
  rintro e w' ⟨rfl, rfl⟩
  go_wp2_with fail
  refine (h3.out _).mono ?_
  rintro e w' ⟨rfl, rfl⟩
  go_wp2
  go_ret
  exact ⟨rfl, rfl⟩
theorem same_any {a b : Nat} (ha : a < 18446744073709551616) (hb : b < 18446744073709551616) (w : World) : Calls Tryz.prog 14 #[.float .f64 a, .float .f64 b] w fun e w' => e = .returned (.bool (decide (canon a = canon b))) ∧ w' = w := by
  have h1 := rBits_any ha
  have h2 := rBits_any hb
  obtain ⟨x, hx⟩ : ∃ x, x = canon a := ⟨_, rfl⟩
  obtain ⟨y, hy⟩ : ∃ y, y = canon b := ⟨_, rfl⟩
  rw [← hx] at h1 ⊢
  rw [← hy] at h2 ⊢
  clear hx hy
  have hd : ((x : Int) == (y : Int)) = decide (x = y) := by
    by_cases h : x = y
    · simp [h]
    · rw [decide_eq_false h]; exact beq_eq_false_iff_ne.2 (by omega)
  replace hd := Lib.hid hd
  go_enter Tryz.func14, Tryz.ntmps14
  go_wp2_with fail
  refine (h1 _).mono ?_
  rintro e w' ⟨rfl, rfl⟩
  go_wp2_with fail
  refine (h2 _).mono ?_
  rintro e w' ⟨rfl, rfl⟩
  go_wp2
  go_ret
  exact ⟨by rw [← hd.out]; rfl, rfl⟩
/-- Two numbers together, where that is a number. -/
theorem add_num {a b r : Nat} (h : floatBits .add .f64 a b = some r) (hr : r < 18446744073709551616) (hn : nanF r = false) (hi : r % 9223372036854775808 ≠ 9218868437227405312) (w : World) :
    Calls Tryz.prog 16 #[.float .f64 a, .float .f64 b] w fun e w' => e = .returned (.tuple #[.float .f64 r, .int .i64 0]) ∧ w' = w := by
  have hq := fun w => run_float_arith (P := Tryz.prog) w .add 23 .f64 a b r h
  have h1 := isNaN_any hr
  have h2 := isInf_any hr hn
  rw [hn] at h1
  rw [decide_eq_false hi] at h2
  clear h hn hi
  go_enter Tryz.func16, Tryz.ntmps16
  go_wp2_with fail
  refine (h1 _).mono ?_
  rintro e w' ⟨rfl, rfl⟩
  go_wp2_with fail
  refine (h2 _).mono ?_
  rintro e w' ⟨rfl, rfl⟩
  go_wp2
  go_ret2
  exact ⟨rfl, rfl⟩
theorem third_is : floatBits .add .f64 4591870180066957722 4596373779694328218 = some 4599075939470750516 := by decide +kernel
theorem third_text : realL 4599075939470750516 = [48, 46, 51, 48, 48, 48, 48, 48, 48, 48, 48, 48, 48, 48, 48, 48, 48, 48, 52] := by decide +kernel
set_option maxRecDepth 100000 in
set_option maxHeartbeats 1600000 in
theorem alive02_any {w : World} (hF : Flo w) (hP : Par w) : Calls Tryz.prog 9 #[] w fun e w' => e = .returned (.bool true) ∧ Below w.heap.size w w' := by
  have h1 := parse_tenth hP
  have h2 := fun w' (hw : Below w.heap.size w w') => parse_two (hP.below hw)
  have h3 := fun w' => add_num third_is (by decide) (by decide) (by decide) w'
  have h4 := fun w' (hw : Below w.heap.size w w') => realText_any (n := 4599075939470750516) (by decide) (hF.below hw)
  replace h1 := Lib.hid h1
  replace h2 := Lib.hid h2
  replace h3 := Lib.hid h3
  replace h4 := Lib.hid h4
  go_enter Tryz.func9, Tryz.ntmps9
  go_wp2_with fail
  refine h1.out.mono ?_
  rintro e w1 ⟨rfl, hb1⟩
  go_wp2_with fail
  refine (h2.out w1 hb1).mono ?_
  rintro e w2 ⟨rfl, hb2⟩
  have hb02 := hb1.trans (hb2.mono hb1.size)
  go_wp2_with fail
  refine (h3.out w2).mono ?_
  rintro e w' ⟨rfl, hww⟩
  obtain rfl := hww.symm
  clear hww
  go_wp2_with fail
  refine (h4.out w2 hb02).mono ?_
  rintro e w3 ⟨t, rfl, ht, hb3⟩
  have hb03 := hb02.trans (hb3.mono hb02.size)
  have htl : (t.toList == [48, 46, 51, 48, 48, 48, 48, 48, 48, 48, 48, 48, 48, 48, 48, 48, 48, 48, 52]) = true := by
    rw [ByteArray.toList_eq, ht, third_text]; rfl
  clear ht
  go_wp2
  go_ret
  exact ⟨rfl, hb03⟩
end Go.Proofs.YtgpfjhligiapdaaGreatDoor
