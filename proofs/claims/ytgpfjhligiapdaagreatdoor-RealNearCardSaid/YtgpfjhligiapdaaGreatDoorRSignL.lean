/- RealSigns: its walk. -/
import Derived.Test.YtgpfjhligiapdaaGreatDoorRSumsL
import Derived.Test.YtgpfjhligiapdaaGreatDoorJ12
namespace Go.Proofs.YtgpfjhligiapdaaGreatDoor
open Go.RowKit

theorem flip_lt {n : Nat} (h : n < 18446744073709551616) : flipN n < 18446744073709551616 := by unfold flipN; split <;> omega
theorem flip_mod {n : Nat} (h : n < 18446744073709551616) : flipN n % 9223372036854775808 = n % 9223372036854775808 := by unfold flipN; split <;> omega
theorem flip_nan {n : Nat} (h : n < 18446744073709551616) : nanF (flipN n) = nanF n := by unfold nanF; rw [flip_mod h]
theorem flip_sign {n : Nat} (h : n < 18446744073709551616) : decide (9223372036854775808 ≤ flipN n) = !decide (9223372036854775808 ≤ n) := by
  unfold flipN
  by_cases h1 : n < 9223372036854775808
  · rw [if_pos h1, decide_eq_true (by omega), decide_eq_false (by omega)]; rfl
  · rw [if_neg h1, decide_eq_false (by omega), decide_eq_true (by omega)]; rfl
theorem flip_rank {n : Nat} (h : n < 18446744073709551616) (hn : nanF n = false) : rankN n + rankN (flipN n) = 18446744073709551615 := by
  have h2 := flip_nan h
  rw [hn] at h2
  unfold rankN
  rw [hn, h2]
  simp only [Bool.false_eq_true, if_false]
  unfold flipN
  by_cases h1 : n < 9223372036854775808
  · rw [if_pos h1, if_neg (by omega), if_pos (by omega)]; omega
  · rw [if_neg h1, if_pos (by omega), if_neg (by omega)]; omega
theorem flip_cmp {a b : Nat} (ha : a < 18446744073709551616) (hb : b < 18446744073709551616) (na : nanF a = false) (nb : nanF b = false) : cmpN (rankN (flipN a)) (rankN (flipN b)) = -cmpN (rankN a) (rankN b) := by
  have h1 := flip_rank ha na
  have h2 := flip_rank hb nb
  unfold cmpN
  repeat' split
  all_goals omega
theorem xor_lit {n : Nat} (h : n < 18446744073709551616) : bits .xor .u64 (n : Int) 9223372036854775808 = ((flipN n : Nat) : Int) := by
  show IntKind.u64.wrap (((BitVec.ofInt 64 (n : Int)) ^^^ (BitVec.ofInt 64 9223372036854775808)).toNat : Int) = _
  rw [BitVec.toNat_xor, toNat_ofInt64 n h, show (BitVec.ofInt 64 9223372036854775808).toNat = 9223372036854775808 by decide, xor63 h]
  have := flip_lt h
  simp [IntKind.wrap, IntKind.bits, IntKind.signed]
  omega
set_option maxRecDepth 100000 in
set_option maxHeartbeats 3200000 in
theorem signsL_any {a b : Nat} (ha : a < 18446744073709551616) (hb : b < 18446744073709551616) {w : World} (hF : Flo w) (hP : Par w) :
    Calls Tryz.prog 5 #[.int .u64 (a : Int), .int .u64 (b : Int)] w fun e w' => e = .returned (.bool true) ∧ Below w.heap.size w w' := by
  have hal := alive02_any hF hP
  have fa := mfrom_run a
  have fb := mfrom_run b
  have oab := order_any ha hb
  have oba := order_any hb ha
  rw [cmpN_neg] at oba
  obtain ⟨P, hPe⟩ : ∃ P, P = cmpN (rankN a) (rankN b) := ⟨_, rfl⟩
  have bP := cmpN_bound (rankN a) (rankN b)
  rw [← hPe] at oab oba bP
  have ha1 := nan_ne ha
  have hb1 := nan_ne hb
  have hPP : (P == P) = true := by simp
  have hPn : - -P = P := by omega
  replace oab := Lib.hid oab
  replace oba := Lib.hid oba
  replace hal := Lib.hid hal
  by_cases hnn : nanF a = true ∨ nanF b = true
  · clear hF hP
    have hcase : nanF a = true ∨ (nanF a = false ∧ nanF b = true) := by
      rcases hnn with h | h
      · exact .inl h
      · cases h2 : nanF a with
        | true => exact .inl rfl
        | false => exact .inr ⟨rfl, h⟩
    clear hnn hPe
    rcases hcase with h | ⟨h, h2⟩
    · rw [h] at ha1
      clear h hb1
      go_enter Tryz.func5, Tryz.ntmps5
      go_wp2_with fail
      refine hal.out.mono ?_
      rintro e w1 ⟨rfl, hb2⟩
      replace hb2 := Lib.hid hb2
      go_wp2_with fail
      refine (oab.out _).mono ?_
      rintro e w' ⟨rfl, hww⟩
      obtain rfl := hww.symm
      clear hww
      go_wp2_with fail
      refine (oba.out _).mono ?_
      rintro e w' ⟨rfl, hww⟩
      obtain rfl := hww.symm
      clear hww
      go_wp2
      go_ret
      exact ⟨rfl, hb2.out⟩
    · rw [h] at ha1
      rw [h2] at hb1
      clear h h2
      go_enter Tryz.func5, Tryz.ntmps5
      go_wp2_with fail
      refine hal.out.mono ?_
      rintro e w1 ⟨rfl, hb2⟩
      replace hb2 := Lib.hid hb2
      go_wp2_with fail
      refine (oab.out _).mono ?_
      rintro e w' ⟨rfl, hww⟩
      obtain rfl := hww.symm
      clear hww
      go_wp2_with fail
      refine (oba.out _).mono ?_
      rintro e w' ⟨rfl, hww⟩
      obtain rfl := hww.symm
      clear hww
      go_wp2
      go_ret
      exact ⟨rfl, hb2.out⟩
  · have na : nanF a = false := by cases h : nanF a with | false => rfl | true => exact absurd (.inl h) hnn
    have nb : nanF b = false := by cases h : nanF b with | false => rfl | true => exact absurd (.inr h) hnn
    rw [na] at ha1
    rw [nb] at hb1
    have xa := xor_lit ha
    have xb := xor_lit hb
    have off := order_any (flip_lt ha) (flip_lt hb)
    rw [flip_cmp ha hb na nb, ← hPe] at off
    have t1 := fun w' (h : Below w.heap.size w w') => realText_any (n := a) ha (hF.below h)
    have t2 := fun w' (h : Below w.heap.size w w') => realText_any (n := flipN a) (flip_lt ha) (hF.below h)
    have e1 := realL_bare na
    have e2 := realL_bare (n := flipN a) (by rw [flip_nan ha]; exact na)
    rw [flip_mod ha, flip_sign ha] at e2
    obtain ⟨A, hA⟩ : ∃ A, A = flipN a := ⟨_, rfl⟩
    obtain ⟨B, hB⟩ : ∃ B, B = flipN b := ⟨_, rfl⟩
    rw [← hA] at xa off t2 e2
    rw [← hB] at xb off
    have fA := mfrom_run A
    have fB := mfrom_run B
    obtain ⟨sg, hsg⟩ : ∃ sg, sg = decide (9223372036854775808 ≤ a) := ⟨_, rfl⟩
    obtain ⟨R, hR⟩ : ∃ R, R = bareL (a % 9223372036854775808) := ⟨_, rfl⟩
    rw [← hsg, ← hR] at e1 e2
    have hRl : R.length ≤ 1100 := by rw [hR]; exact bareL_len (by unfold nanF at na; have := of_decide_eq_false na; omega)
    replace off := Lib.hid off
    replace t1 := Lib.hid t1
    replace t2 := Lib.hid t2
    clear hnn hPe hsg hR hA hB hF hP na nb
    go_enter Tryz.func5, Tryz.ntmps5
    go_wp2_with fail
    refine hal.out.mono ?_
    rintro e w1 ⟨rfl, hb2⟩
    go_wp2_with fail
    refine (t1.out w1 hb2).mono ?_
    rintro e w2 ⟨s, rfl, hs, hb3⟩
    have hb02 := hb2.trans (hb3.mono hb2.size)
    go_wp2_with fail
    refine (t2.out w2 hb02).mono ?_
    rintro e w3 ⟨t, rfl, ht, hb4⟩
    have hb03 := hb02.trans (hb4.mono hb02.size)
    rw [e1] at hs
    rw [e2] at ht
    replace hb03 := Lib.hid hb03
    clear hb2 hb3 hb4 hb02 e1 e2
    have mn : (⟨#[45]⟩ : ByteArray).data.toList = [45] := rfl
    cases sg with
    | true =>
      have hst : s = (⟨#[45]⟩ : ByteArray) ++ t := by
        apply ByteArray.ext
        apply Array.toList_inj.1
        rw [ByteArray.data_append, Array.toList_append, hs, ht]; rfl
      have htn : t.size ≤ 1100 := by
        rw [size_list, ht]; exact hRl
      have htn2 : ¬ 9223372036854775807 < 1 + t.size := by omega
      clear hs ht mn
      subst hst
      go_wp2_with fail
      refine (oab.out _).mono ?_
      rintro e w' ⟨rfl, hww⟩
      obtain rfl := hww.symm
      clear hww
      go_wp2_with fail
      refine (off.out _).mono ?_
      rintro e w' ⟨rfl, hww⟩
      obtain rfl := hww.symm
      clear hww
      go_wp2
      go_ret
      exact ⟨rfl, hb03.out⟩
    | false =>
      have hst : t = (⟨#[45]⟩ : ByteArray) ++ s := by
        apply ByteArray.ext
        apply Array.toList_inj.1
        rw [ByteArray.data_append, Array.toList_append, hs, ht]; rfl
      have hsn : s.size ≤ 1100 := by
        rw [size_list, hs]; exact hRl
      have htn2 : ¬ 9223372036854775807 < 1 + s.size := by omega
      have e1 : (⟨#[45]⟩ : ByteArray).size = 1 := rfl
      have htn3 : ¬ 9223372036854775807 < 1 + ((⟨#[45]⟩ : ByteArray) ++ s).size := by rw [ByteArray.size_append, e1]; omega
      have hne : ¬ s = (⟨#[45]⟩ : ByteArray) ++ ((⟨#[45]⟩ : ByteArray) ++ s) := fun e => by
        have := congrArg ByteArray.size e
        rw [ByteArray.size_append, ByteArray.size_append, e1] at this; omega
      have hne2 : ¬ s.toList = ((⟨#[45]⟩ : ByteArray) ++ ((⟨#[45]⟩ : ByteArray) ++ s)).toList := fun e => hne (by
        rw [ByteArray.toList_eq, ByteArray.toList_eq] at e
        exact ByteArray.ext (Array.toList_inj.1 e))
      have hneb : (s.toList == ((⟨#[45]⟩ : ByteArray) ++ ((⟨#[45]⟩ : ByteArray) ++ s)).toList) = false := beq_eq_false_iff_ne.2 hne2
      clear hs ht mn e1
      subst hst
      go_wp2_with fail
      refine (oab.out _).mono ?_
      rintro e w' ⟨rfl, hww⟩
      obtain rfl := hww.symm
      clear hww
      go_wp2_with fail
      refine (off.out _).mono ?_
      rintro e w' ⟨rfl, hww⟩
      obtain rfl := hww.symm
      clear hww
      go_wp2
      go_ret
      exact ⟨rfl, hb03.out⟩
end Go.Proofs.YtgpfjhligiapdaaGreatDoor
