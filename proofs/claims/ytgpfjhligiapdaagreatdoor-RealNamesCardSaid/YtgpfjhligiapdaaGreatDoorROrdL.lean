/- RealOrders: its walk. -/
import Derived.Test.YtgpfjhligiapdaaGreatDoorParT
namespace Go.Proofs.YtgpfjhligiapdaaGreatDoor
open Go.RowKit

set_option maxRecDepth 100000 in
set_option maxHeartbeats 3200000 in
theorem ordersL_any {a b c : Nat} (ha : a < 18446744073709551616) (hb : b < 18446744073709551616) (hc : c < 18446744073709551616) {w : World} (hF : Flo w) (hP : Par w) :
    Calls Tryz.prog 8 #[.int .u64 (a : Int), .int .u64 (b : Int), .int .u64 (c : Int)] w fun e w' => e = .returned (.bool true) ∧ Below w.heap.size w w' := by
  have hal := alive02_any hF hP
  have fa := mfrom_run a
  have fb := mfrom_run b
  have fc := mfrom_run c
  have oab := order_any ha hb
  have obc := order_any hb hc
  have oac := order_any ha hc
  have oba := order_any hb ha
  have oaa := order_any ha ha
  have sab := same_any ha hb
  rw [cmpN_self] at oaa
  rw [cmpN_neg] at oba
  have hle := cmpN_le (rankN a) (rankN b) (rankN c)
  have hz : (decide (canon a = canon b)) = decide (cmpN (rankN a) (rankN b) = 0) := decide_eq_decide.2 (by rw [cmpN_zero, rank_inj ha hb])
  rw [hz] at sab
  have bP := cmpN_bound (rankN a) (rankN b)
  have bQ := cmpN_bound (rankN b) (rankN c)
  have bS := cmpN_bound (rankN a) (rankN c)
  obtain ⟨P, hPe⟩ : ∃ P, P = cmpN (rankN a) (rankN b) := ⟨_, rfl⟩
  obtain ⟨Q, hQe⟩ : ∃ P, P = cmpN (rankN b) (rankN c) := ⟨_, rfl⟩
  obtain ⟨S, hSe⟩ : ∃ P, P = cmpN (rankN a) (rankN c) := ⟨_, rfl⟩
  rw [← hPe] at oab oba sab bP hle
  rw [← hQe] at obc bQ hle
  rw [← hSe] at oac bS hle
  replace oab := Lib.hid oab
  replace obc := Lib.hid obc
  replace oac := Lib.hid oac
  replace oba := Lib.hid oba
  replace oaa := Lib.hid oaa
  replace hal := Lib.hid hal
  clear hz hPe hQe hSe hF hP
  by_cases hP0 : P = 0
  · rw [decide_eq_true hP0] at sab
    subst hP0
    replace sab := Lib.hid sab
    go_enter Tryz.func8, Tryz.ntmps8
    go_wp2_with fail
    refine hal.out.mono ?_
    rintro e w1 ⟨rfl, hb1⟩
    replace hb1 := Lib.hid hb1
    go_wp2_with fail
    refine (oab.out _).mono ?_
    rintro e w' ⟨rfl, hww⟩
    obtain rfl := hww.symm
    clear hww
    go_wp2_with fail
    refine (obc.out _).mono ?_
    rintro e w' ⟨rfl, hww⟩
    obtain rfl := hww.symm
    clear hww
    go_wp2_with fail
    refine (oac.out _).mono ?_
    rintro e w' ⟨rfl, hww⟩
    obtain rfl := hww.symm
    clear hww
    go_wp2_with fail
    refine (oba.out _).mono ?_
    rintro e w' ⟨rfl, hww⟩
    obtain rfl := hww.symm
    clear hww
    go_wp2_with fail
    refine (oaa.out _).mono ?_
    rintro e w' ⟨rfl, hww⟩
    obtain rfl := hww.symm
    clear hww
    go_wp2_with fail
    refine (sab.out _).mono ?_
    rintro e w' ⟨rfl, hww⟩
    obtain rfl := hww.symm
    clear hww
    by_cases hQ : Q ≤ 0
    · have hS : S ≤ 0 := hle (by omega) hQ
      go_wp2
      go_ret
      exact ⟨rfl, hb1.out⟩
    · go_wp2
      go_ret
      exact ⟨rfl, hb1.out⟩
  · rw [decide_eq_false hP0] at sab
    have hPb : (P == 0) = false := beq_eq_false_iff_ne.2 hP0
    have hPP : - -P = P := by omega
    replace sab := Lib.hid sab
    go_enter Tryz.func8, Tryz.ntmps8
    go_wp2_with fail
    refine hal.out.mono ?_
    rintro e w1 ⟨rfl, hb1⟩
    replace hb1 := Lib.hid hb1
    go_wp2_with fail
    refine (oab.out _).mono ?_
    rintro e w' ⟨rfl, hww⟩
    obtain rfl := hww.symm
    clear hww
    go_wp2_with fail
    refine (obc.out _).mono ?_
    rintro e w' ⟨rfl, hww⟩
    obtain rfl := hww.symm
    clear hww
    go_wp2_with fail
    refine (oac.out _).mono ?_
    rintro e w' ⟨rfl, hww⟩
    obtain rfl := hww.symm
    clear hww
    go_wp2_with fail
    refine (oba.out _).mono ?_
    rintro e w' ⟨rfl, hww⟩
    obtain rfl := hww.symm
    clear hww
    go_wp2_with fail
    refine (oaa.out _).mono ?_
    rintro e w' ⟨rfl, hww⟩
    obtain rfl := hww.symm
    clear hww
    go_wp2_with fail
    refine (sab.out _).mono ?_
    rintro e w' ⟨rfl, hww⟩
    obtain rfl := hww.symm
    clear hww
    by_cases hPl : P ≤ 0
    · by_cases hQ : Q ≤ 0
      · have hS : S ≤ 0 := hle hPl hQ
        go_wp2
        go_ret
        exact ⟨rfl, hb1.out⟩
      · go_wp2
        go_ret
        exact ⟨rfl, hb1.out⟩
    · go_wp2
      go_ret
      exact ⟨rfl, hb1.out⟩
end Go.Proofs.YtgpfjhligiapdaaGreatDoor
