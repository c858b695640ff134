/- RealNames: its walk. -/
import Derived.Test.YtgpfjhligiapdaaGreatDoorRNamL
namespace Go.Proofs.YtgpfjhligiapdaaGreatDoor
open Go.RowKit

theorem minf_text : realL 18442240474082181120 = [45, 105, 110, 102] := by decide +kernel
theorem nan_text : realL 9221120237041090561 = [110, 97, 110] := by decide +kernel
theorem mzero_text : realL 9223372036854775808 = [45, 48] := by decide +kernel
theorem minf_add : floatBits .add .f64 18442240474082181120 4607182418800017408 = some 18442240474082181120 := by decide +kernel
set_option maxRecDepth 100000 in
set_option maxHeartbeats 6400000 in
theorem namesL_any {w : World} (hF : Flo w) (hP : Par w) (hR : Rng w) : Calls Tryz.prog 6 #[] w fun e w' => e = .returned (.bool true) ∧ Below w.heap.size w w' := by
  have h1 := parse_minf
  have h2 := parse_nan
  have h3 := fun w' (h : Below w.heap.size w w') => parse_e999 (hP.below h) (hR.below h)
  have h4 := fun w' => add_any (run_float_arith (P := Tryz.prog) w' .add _ .f64 18442240474082181120 4607182418800017408 18442240474082181120 minf_add) (by decide)
  rw [show badF 18442240474082181120 = true by decide +kernel, if_pos rfl, if_pos rfl] at h4
  have h5 := fun w' (h : Below w.heap.size w w') => parse_mzero (hP.below h)
  have h6 := fun w' (h : Below w.heap.size w w') => alive02_any (hF.below h) (hP.below h)
  have t1 := fun w' (h : Below w.heap.size w w') => realText_any (n := 18442240474082181120) (by decide) (hF.below h)
  have t2 := fun w' (h : Below w.heap.size w w') => realText_any (n := 9221120237041090561) (by decide) (hF.below h)
  have t3 := fun w' (h : Below w.heap.size w w') => realText_any (n := 9223372036854775808) (by decide) (hF.below h)
  have b1 := fun w' => rBits_any (r := 9221120237041090561) (by decide) w'
  rw [show canon 9221120237041090561 = 9221120237041090561 by decide +kernel] at b1
  have s1 := fun w' => same_any (a := 9221120237041090561) (b := 9221120237041090561) (by decide) (by decide) w'
  rw [decide_eq_true rfl] at s1
  have s2 := fun w' => same_any (a := 9223372036854775808) (b := 0) (by decide) (by decide) w'
  rw [show decide (canon 9223372036854775808 = canon 0) = false by decide +kernel] at s2
  have o1 := fun w' => order_any (a := 9223372036854775808) (b := 0) (by decide) (by decide) w'
  rw [show cmpN (rankN 9223372036854775808) (rankN 0) = -1 by decide +kernel] at o1
  have o2 := fun w' => order_any (a := 9221120237041090561) (b := 18442240474082181120) (by decide) (by decide) w'
  rw [show cmpN (rankN 9221120237041090561) (rankN 18442240474082181120) = 1 by decide +kernel] at o2
  replace h1 := Lib.hid h1
  replace h2 := Lib.hid h2
  replace h3 := Lib.hid h3
  replace h4 := Lib.hid h4
  replace h5 := Lib.hid h5
  replace h6 := Lib.hid h6
  replace t1 := Lib.hid t1
  replace t2 := Lib.hid t2
  replace t3 := Lib.hid t3
  replace b1 := Lib.hid b1
  replace s1 := Lib.hid s1
  replace s2 := Lib.hid s2
  replace o1 := Lib.hid o1
  replace o2 := Lib.hid o2
  clear hF hP hR
  go_enter Tryz.func6, Tryz.ntmps6
  go_wp2_with fail
  refine (h1.out _).mono ?_
  rintro e w' ⟨rfl, hww⟩
  obtain rfl := hww.symm
  clear hww
  go_wp2_with fail
  refine (h2.out _).mono ?_
  rintro e w' ⟨rfl, hww⟩
  obtain rfl := hww.symm
  clear hww
  go_wp2_with fail
  refine (h3.out w (Below.refl _ _)).mono ?_
  rintro e w1 ⟨rfl, hb1⟩
  go_wp2_with fail
  refine (h4.out _).mono ?_
  rintro e w' ⟨rfl, hww⟩
  obtain rfl := hww.symm
  clear hww
  go_wp2_with fail
  refine (h5.out w1 hb1).mono ?_
  rintro e w2 ⟨rfl, hb2⟩
  have hb02 := hb1.trans (hb2.mono hb1.size)
  clear hb1 hb2
  go_upto_region 6 with fail
  refine wp_region_lit ?_
  simp only [List.append_eq, List.cons_append, List.nil_append]
  go_wp2_with fail
  refine (h6.out w2 hb02).mono ?_
  rintro e w3 ⟨rfl, hb3⟩
  have hb03 := hb02.trans (hb3.mono hb02.size)
  clear hb3 hb02
  go_wp2_with fail
  refine (t1.out w3 hb03).mono ?_
  rintro e w4 ⟨ta, rfl, hta, hb4⟩
  have hb04 := hb03.trans (hb4.mono hb03.size)
  have la : (ta.toList == [45, 105, 110, 102]) = true := by rw [ByteArray.toList_eq, hta, minf_text]; rfl
  clear hb4 hb03 hta
  go_wp2_with fail
  refine (t2.out w4 hb04).mono ?_
  rintro e w5 ⟨tb, rfl, htb, hb5⟩
  have hb05 := hb04.trans (hb5.mono hb04.size)
  have lb : (tb.toList == [110, 97, 110]) = true := by rw [ByteArray.toList_eq, htb, nan_text]; rfl
  clear hb5 hb04 htb la
  go_wp2_with fail
  refine (t3.out w5 hb05).mono ?_
  rintro e w6 ⟨tc, rfl, htc, hb6⟩
  have hb06 := hb05.trans (hb6.mono hb05.size)
  have lc : (tc.toList == [45, 48]) = true := by rw [ByteArray.toList_eq, htc, mzero_text]; rfl
  clear hb6 hb05 htc lb
  go_wp2_with fail
  refine (b1.out _).mono ?_
  rintro e w' ⟨rfl, hww⟩
  obtain rfl := hww.symm
  clear hww
  go_wp2_with fail
  refine (s1.out _).mono ?_
  rintro e w' ⟨rfl, hww⟩
  obtain rfl := hww.symm
  clear hww
  go_wp2_with fail
  refine (s2.out _).mono ?_
  rintro e w' ⟨rfl, hww⟩
  obtain rfl := hww.symm
  clear hww
  go_wp2_with fail
  refine (o1.out _).mono ?_
  rintro e w' ⟨rfl, hww⟩
  obtain rfl := hww.symm
  clear hww
  go_wp2_with fail
  refine (o2.out _).mono ?_
  rintro e w' ⟨rfl, hww⟩
  obtain rfl := hww.symm
  clear hww
  go_wp2
  go_ret
  exact ⟨rfl, hb06⟩
end Go.Proofs.YtgpfjhligiapdaaGreatDoor
