/- RealSums: its walk. -/
import Derived.Test.YtgpfjhligiapdaaGreatDoorRSums
namespace Go.Proofs.YtgpfjhligiapdaaGreatDoor
open Go.RowKit

theorem add_two {a b r1 r2 : Nat} (h1 : floatBits .add .f64 a b = some r1 ∨ (floatBits .add .f64 a b = none ∧ nanF r1 = true)) (h2 : floatBits .add .f64 a b = some r2 ∨ (floatBits .add .f64 a b = none ∧ nanF r2 = true)) :
    (if badF r1 then 0 else r1) = (if badF r2 then 0 else r2) ∧ (if badF r1 then (21 : Int) else 0) = (if badF r2 then (21 : Int) else 0) := by
  rcases h1 with h1 | ⟨h1, h3⟩
  · rcases h2 with h2 | ⟨h2, h4⟩
    · rw [h1] at h2
      rw [Option.some.inj h2]; exact ⟨rfl, rfl⟩
    · rw [h1] at h2; cases h2
  · rcases h2 with h2 | ⟨h2, h4⟩
    · rw [h1] at h2; cases h2
    · have e1 : badF r1 = true := by unfold badF; rw [h3]; rfl
      have e2 : badF r2 = true := by unfold badF; rw [h4]; rfl
      rw [e1, e2]; exact ⟨rfl, rfl⟩
set_option maxRecDepth 100000 in
set_option maxHeartbeats 3200000 in
theorem sumsL_any {a b : Nat} (ha : a < 18446744073709551616) (hb : b < 18446744073709551616) {w : World} (hF : Flo w) (hP : Par w) :
    Calls Tryz.prog 7 #[.int .u64 (a : Int), .int .u64 (b : Int)] w fun e w' => e = .returned (.bool true) ∧ Below w.heap.size w w' := by
  have hal := alive02_any hF hP
  have fa := mfrom_run a
  have fb := mfrom_run b
  have oab := order_any ha hb
  have rab := refOrder_any ha hb
  rw [← order_ref ha hb] at rab
  have sab := same_any ha hb
  have ra := refBits_any ha
  have rb := refBits_any hb
  obtain ⟨P, hPe⟩ : ∃ P, P = cmpN (rankN a) (rankN b) := ⟨_, rfl⟩
  rw [← hPe] at oab rab
  obtain ⟨x, hx⟩ : ∃ x, x = canon a := ⟨_, rfl⟩
  obtain ⟨y, hy⟩ : ∃ y, y = canon b := ⟨_, rfl⟩
  rw [← hx] at ra sab
  rw [← hy] at rb sab
  replace oab := Lib.hid oab
  replace rab := Lib.hid rab
  replace ra := Lib.hid ra
  replace rb := Lib.hid rb
  replace hal := Lib.hid hal
  clear hPe hx hy hF hP
  have hPP : (P == P) = true := by simp
  by_cases hxy : x = y
  · rw [decide_eq_true hxy] at sab
    have hxb : ((x : Int) == (y : Int)) = true := by simp [hxy]
    replace sab := Lib.hid sab
    clear hxy
    go_enter Tryz.func7, Tryz.ntmps7
    go_wp2_with fail
    refine hal.out.mono ?_
    rintro e w1 ⟨rfl, hb1⟩
    obtain ⟨r1, w2, hr1, hl1, hb2, hc1⟩ := add_run a b w1
    obtain ⟨r2, w3, hr2, hl2, hb3, hc2⟩ := add_run a b w2
    obtain ⟨e1, e2⟩ := add_two hc1 hc2
    have k1 := add_any hr1 hl1
    have k2 := refAdd_any hr2 hl2
    rw [← e1, ← e2] at k2
    have hS9 : (if badF r1 then 0 else r1) < 18446744073709551616 := by split <;> omega
    obtain ⟨S, hS⟩ : ∃ S, S = if badF r1 then 0 else r1 := ⟨_, rfl⟩
    obtain ⟨E, hE⟩ : ∃ E : Int, E = if badF r1 then 21 else 0 := ⟨_, rfl⟩
    rw [← hS] at k1 k2 hS9
    rw [← hE] at k1 k2
    have hcS := refBits_any hS9
    obtain ⟨cs, hcs⟩ : ∃ cs, cs = canon S := ⟨_, rfl⟩
    rw [← hcs] at hcS
    have hb02 := hb1.trans (hb2.mono hb1.size)
    have hb03 := hb02.trans (hb3.mono hb02.size)
    have hss : ((cs : Int) == (cs : Int)) = true := by simp
    have hEE : (E == E) = true := by simp
    replace hcS := Lib.hid hcS
    replace k1 := Lib.hid k1
    replace k2 := Lib.hid k2
    replace hb03 := Lib.hid hb03
    clear hr1 hr2 hc1 hc2 e1 e2 hS hE hcs hb1 hb2 hb3 hb02 hl1 hl2
    go_wp2_with fail
    refine k1.out.mono ?_
    rintro e w' ⟨rfl, hww⟩
    obtain rfl := hww.symm
    clear hww
    go_wp2_with fail
    refine k2.out.mono ?_
    rintro e w' ⟨rfl, hww⟩
    obtain rfl := hww.symm
    clear hww
    go_wp2_with fail
    refine (hcS.out _).mono ?_
    rintro e w' ⟨rfl, hww⟩
    obtain rfl := hww.symm
    clear hww
    go_wp2_with fail
    refine (hcS.out _).mono ?_
    rintro e w' ⟨rfl, hww⟩
    obtain rfl := hww.symm
    clear hww
    go_wp2_with fail
    refine (sab.out _).mono ?_
    rintro e w' ⟨rfl, hww⟩
    obtain rfl := hww.symm
    clear hww
    go_wp2_with fail
    refine (ra.out _).mono ?_
    rintro e w' ⟨rfl, hww⟩
    obtain rfl := hww.symm
    clear hww
    go_wp2_with fail
    refine (rb.out _).mono ?_
    rintro e w' ⟨rfl, hww⟩
    obtain rfl := hww.symm
    clear hww
    go_wp2_with fail
    refine (oab.out _).mono ?_
    rintro e w' ⟨rfl, hww⟩
    obtain rfl := hww.symm
    clear hww
    go_wp2_with fail
    refine (rab.out _).mono ?_
    rintro e w' ⟨rfl, hww⟩
    obtain rfl := hww.symm
    clear hww
    go_wp2
    go_ret
    exact ⟨rfl, hb03.out⟩
  · rw [decide_eq_false hxy] at sab
    have hxb : ((x : Int) == (y : Int)) = false := beq_eq_false_iff_ne.2 (by omega)
    replace sab := Lib.hid sab
    clear hxy
    go_enter Tryz.func7, Tryz.ntmps7
    go_wp2_with fail
    refine hal.out.mono ?_
    rintro e w1 ⟨rfl, hb1⟩
    obtain ⟨r1, w2, hr1, hl1, hb2, hc1⟩ := add_run a b w1
    obtain ⟨r2, w3, hr2, hl2, hb3, hc2⟩ := add_run a b w2
    obtain ⟨e1, e2⟩ := add_two hc1 hc2
    have k1 := add_any hr1 hl1
    have k2 := refAdd_any hr2 hl2
    rw [← e1, ← e2] at k2
    have hS9 : (if badF r1 then 0 else r1) < 18446744073709551616 := by split <;> omega
    obtain ⟨S, hS⟩ : ∃ S, S = if badF r1 then 0 else r1 := ⟨_, rfl⟩
    obtain ⟨E, hE⟩ : ∃ E : Int, E = if badF r1 then 21 else 0 := ⟨_, rfl⟩
    rw [← hS] at k1 k2 hS9
    rw [← hE] at k1 k2
    have hcS := refBits_any hS9
    obtain ⟨cs, hcs⟩ : ∃ cs, cs = canon S := ⟨_, rfl⟩
    rw [← hcs] at hcS
    have hb02 := hb1.trans (hb2.mono hb1.size)
    have hb03 := hb02.trans (hb3.mono hb02.size)
    have hss : ((cs : Int) == (cs : Int)) = true := by simp
    have hEE : (E == E) = true := by simp
    replace hcS := Lib.hid hcS
    replace k1 := Lib.hid k1
    replace k2 := Lib.hid k2
    replace hb03 := Lib.hid hb03
    clear hr1 hr2 hc1 hc2 e1 e2 hS hE hcs hb1 hb2 hb3 hb02 hl1 hl2
    go_wp2_with fail
    refine k1.out.mono ?_
    rintro e w' ⟨rfl, hww⟩
    obtain rfl := hww.symm
    clear hww
    go_wp2_with fail
    refine k2.out.mono ?_
    rintro e w' ⟨rfl, hww⟩
    obtain rfl := hww.symm
    clear hww
    go_wp2_with fail
    refine (hcS.out _).mono ?_
    rintro e w' ⟨rfl, hww⟩
    obtain rfl := hww.symm
    clear hww
    go_wp2_with fail
    refine (hcS.out _).mono ?_
    rintro e w' ⟨rfl, hww⟩
    obtain rfl := hww.symm
    clear hww
    go_wp2_with fail
    refine (sab.out _).mono ?_
    rintro e w' ⟨rfl, hww⟩
    obtain rfl := hww.symm
    clear hww
    go_wp2_with fail
    refine (ra.out _).mono ?_
    rintro e w' ⟨rfl, hww⟩
    obtain rfl := hww.symm
    clear hww
    go_wp2_with fail
    refine (rb.out _).mono ?_
    rintro e w' ⟨rfl, hww⟩
    obtain rfl := hww.symm
    clear hww
    go_wp2_with fail
    refine (oab.out _).mono ?_
    rintro e w' ⟨rfl, hww⟩
    obtain rfl := hww.symm
    clear hww
    go_wp2_with fail
    refine (rab.out _).mono ?_
    rintro e w' ⟨rfl, hww⟩
    obtain rfl := hww.symm
    clear hww
    go_wp2
    go_ret
    exact ⟨rfl, hb03.out⟩
end Go.Proofs.YtgpfjhligiapdaaGreatDoor
