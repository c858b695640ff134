/- nearhandref02's Bits, Add, Order; real.Add at every two numbers; RealSums. -/
import Derived.Test.YtgpfjhligiapdaaGreatDoorJ8
namespace Go.Proofs.YtgpfjhligiapdaaGreatDoor
open Go.RowKit

theorem refBits_any {r : Nat} (h : r < 18446744073709551616) (w : World) : Calls Tryz.prog 19 #[.float .f64 r] w fun e w' => e = .returned (.int .u64 (canon r : Int)) ∧ w' = w := by
  have hf := mbits_run r
  have hn := nan_ne h
  cases hnan : nanF r with
  | true =>
    have hc : canon r = nanC := (canon_nan r).2 hnan
    rw [hnan] at hn
    rw [hc]
    clear hnan hc
    go_enter Tryz.func19, Tryz.ntmps19
    go_wp2
    go_ret
    exact ⟨rfl, rfl⟩
  | false =>
    have hc : canon r = r := by unfold canon; rw [hnan]; rfl
    rw [hnan] at hn
    rw [hc]
    clear hnan hc
    go_enter Tryz.func19, Tryz.ntmps19
    go_wp2
    go_ret
    exact ⟨rfl, rfl⟩
/-- What comes of two numbers: no number is drawn. -/
theorem add_run (a b : Nat) (w : World) : ∃ r w1, (binOp .add 23 (.float .f64 a) (.float .f64 b)).run Tryz.prog w = .ok (.float .f64 r) w1 ∧ r < 18446744073709551616 ∧ Below w.heap.size w w1 ∧ (floatBits .add .f64 a b = some r ∨ (floatBits .add .f64 a b = none ∧ nanF r = true)) := by
  cases h : floatBits .add .f64 a b with
  | some r =>
    refine ⟨r, w, run_float_arith w .add 23 .f64 a b r h, ?_, Below.refl _ _, .inl rfl⟩
    have := floatBits_wf h
    simpa [Lit.wf] using this
  | none =>
    obtain ⟨t, ht⟩ : ∃ t, t = w.tape w.drawn (.nanBits .f64 a b) := ⟨_, rfl⟩
    obtain ⟨r, hr⟩ : ∃ r : Nat, r = (t % 2) * 2 ^ 63 + 0x7ff0000000000000 + 1 + (t / 2) % (2 ^ 52 - 1) := ⟨_, rfl⟩
    have hcut : (Question.nanBits .f64 a b).cut (w.tape w.drawn (.nanBits .f64 a b)) = r := by rw [← ht, hr]; rfl
    have hq : t % 2 ≤ 1 := by omega
    have hm : (t / 2) % (2 ^ 52 - 1) < 4503599627370495 := Nat.mod_lt _ (by decide)
    have hr2 : r = (t % 2) * 9223372036854775808 + 9218868437227405312 + 1 + (t / 2) % (2 ^ 52 - 1) := hr
    generalize t % 2 = q at *
    generalize (t / 2) % (2 ^ 52 - 1) = m at *
    clear hr ht
    refine ⟨r, w.drew, ?_, by omega, Below.drew (Below.refl _ _), .inr ⟨rfl, ?_⟩⟩
    · have h' : FloatKind.f64.format.add a b = none := h
      simp [binOp, Op.floatArith, h', Question.forced, hcut]
    · unfold nanF
      rw [decide_eq_true_iff]
      omega
def badF (r : Nat) : Bool := nanF r || decide (r % 9223372036854775808 = 9218868437227405312)
theorem canon_inf {r : Nat} (h : r < 18446744073709551616) (hn : nanF r = false) : canon r = r := by unfold canon; rw [hn]; rfl
theorem add_any {a b r : Nat} {w w1 : World} (hrun : (binOp .add 23 (.float .f64 a) (.float .f64 b)).run Tryz.prog w = .ok (.float .f64 r) w1) (hr : r < 18446744073709551616) :
    Calls Tryz.prog 16 #[.float .f64 a, .float .f64 b] w fun e w' => e = .returned (.tuple #[.float .f64 (if badF r then 0 else r), .int .i64 (if badF r then 21 else 0)]) ∧ w' = w1 := by
  have h1 := isNaN_any hr
  cases hn : nanF r with
  | true =>
    have hb : badF r = true := by unfold badF; rw [hn]; rfl
    rw [hn] at h1
    rw [hb, if_pos rfl, if_pos rfl]
    clear hb hn
    replace h1 := Lib.hid h1
    go_enter Tryz.func16, Tryz.ntmps16
    go_wp2_with fail
    refine (h1.out _).mono ?_
    rintro e w' ⟨rfl, rfl⟩
    go_wp2
    go_ret2
    exact ⟨rfl, rfl⟩
  | false =>
    have h2 := isInf_any hr hn
    rw [hn] at h1
    by_cases hi : r % 9223372036854775808 = 9218868437227405312
    · have hb : badF r = true := by unfold badF; rw [decide_eq_true hi]; simp
      rw [decide_eq_true hi] at h2
      rw [hb, if_pos rfl, if_pos rfl]
      clear hb hn hi
      replace h1 := Lib.hid h1
      replace h2 := Lib.hid h2
      go_enter Tryz.func16, Tryz.ntmps16
      go_wp2_with fail
      refine (h1.out _).mono ?_
      rintro e w' ⟨rfl, rfl⟩
      go_wp2_with fail
      refine (h2.out _).mono ?_
      rintro e w' ⟨rfl, rfl⟩
      go_wp2
      go_ret2
      exact ⟨rfl, rfl⟩
    · have hb : badF r = false := by unfold badF; rw [hn, decide_eq_false hi]; rfl
      rw [decide_eq_false hi] at h2
      rw [hb, if_neg (by decide), if_neg (by decide)]
      clear hb hn hi
      replace h1 := Lib.hid h1
      replace h2 := Lib.hid h2
      go_enter Tryz.func16, Tryz.ntmps16
      go_wp2_with fail
      refine (h1.out _).mono ?_
      rintro e w' ⟨rfl, rfl⟩
      go_wp2_with fail
      refine (h2.out _).mono ?_
      rintro e w' ⟨rfl, rfl⟩
      go_wp2
      go_ret2
      exact ⟨rfl, rfl⟩
theorem refAdd_any {a b r : Nat} {w w1 : World} (hrun : (binOp .add 23 (.float .f64 a) (.float .f64 b)).run Tryz.prog w = .ok (.float .f64 r) w1) (hr : r < 18446744073709551616) :
    Calls Tryz.prog 18 #[.float .f64 a, .float .f64 b] w fun e w' => e = .returned (.tuple #[.float .f64 (if badF r then 0 else r), .int .i64 (if badF r then 21 else 0)]) ∧ w' = w1 := by
  have h1 := refBits_any hr
  obtain ⟨k, hk⟩ : ∃ k, k = canon r := ⟨_, rfl⟩
  rw [← hk] at h1
  cases hn : nanF r with
  | true =>
    have hb : badF r = true := by unfold badF; rw [hn]; rfl
    have e1 : ((k : Int) == 9221120237041090561) = true := by rw [hk, (canon_nan r).2 hn]; rfl
    rw [hb, if_pos rfl, if_pos rfl]
    clear hb hn hk
    replace h1 := Lib.hid h1
    go_enter Tryz.func18, Tryz.ntmps18
    go_wp2_with fail
    refine (h1.out _).mono ?_
    rintro e w' ⟨rfl, rfl⟩
    go_wp2
    go_ret2
    exact ⟨rfl, rfl⟩
  | false =>
    rw [canon_inf hr hn] at hk
    have e1 : ((k : Int) == 9221120237041090561) = false := beq_eq_false_iff_ne.2 (fun e => by unfold nanF at hn; have := of_decide_eq_false hn; omega)
    by_cases hi1 : r = 9218868437227405312
    · have hb : badF r = true := by unfold badF; rw [decide_eq_true (by omega)]; simp
      have e2 : ((k : Int) == 9218868437227405312) = true := by simp; omega
      rw [hb, if_pos rfl, if_pos rfl]
      clear hb hn hk hi1
      replace h1 := Lib.hid h1
      go_enter Tryz.func18, Tryz.ntmps18
      go_wp2_with fail
      refine (h1.out _).mono ?_
      rintro e w' ⟨rfl, rfl⟩
      go_wp2
      go_ret2
      exact ⟨rfl, rfl⟩
    · have e2 : ((k : Int) == 9218868437227405312) = false := beq_eq_false_iff_ne.2 (by omega)
      by_cases hi2 : r = 18442240474082181120
      · have hb : badF r = true := by unfold badF; rw [decide_eq_true (by omega)]; simp
        have e3 : ((k : Int) == 18442240474082181120) = true := by simp; omega
        rw [hb, if_pos rfl, if_pos rfl]
        clear hb hn hk hi1 hi2
        replace h1 := Lib.hid h1
        go_enter Tryz.func18, Tryz.ntmps18
        go_wp2_with fail
        refine (h1.out _).mono ?_
        rintro e w' ⟨rfl, rfl⟩
        go_wp2
        go_ret2
        exact ⟨rfl, rfl⟩
      · have e3 : ((k : Int) == 18442240474082181120) = false := beq_eq_false_iff_ne.2 (by omega)
        have hb : badF r = false := by unfold badF; rw [hn, decide_eq_false (by omega)]; rfl
        rw [hb, if_neg (by decide), if_neg (by decide)]
        replace hk := Lib.hid hk
        clear hb hn hi1 hi2
        replace h1 := Lib.hid h1
        go_enter Tryz.func18, Tryz.ntmps18
        go_wp2_with fail
        refine (h1.out _).mono ?_
        rintro e w' ⟨rfl, rfl⟩
        go_wp2
        go_ret2
        exact ⟨rfl, rfl⟩
theorem refOrder_any {a b : Nat} (ha : a < 18446744073709551616) (hb : b < 18446744073709551616) (w : World) : Calls Tryz.prog 20 #[.float .f64 a, .float .f64 b] w fun e w' => e = .returned (.int .i64 (refOrd a b)) ∧ w' = w := by
  have h1 := refBits_any ha
  have h2 := refBits_any hb
  obtain ⟨x, hx⟩ : ∃ x, x = canon a := ⟨_, rfl⟩
  obtain ⟨y, hy⟩ : ∃ y, y = canon b := ⟨_, rfl⟩
  rw [← hx] at h1
  rw [← hy] at h2
  have hR : refOrd a b = refOrd a b := rfl
  conv at hR => rhs; unfold refOrd
  rw [← hx, ← hy] at hR
  obtain ⟨R, hRe⟩ : ∃ R, R = refOrd a b := ⟨_, rfl⟩
  rw [← hRe] at hR ⊢
  replace h1 := Lib.hid h1
  replace h2 := Lib.hid h2
  have nx : ((x : Int) == 9221120237041090561) = nanF a := by
    cases hn : nanF a with
    | true => rw [hx, (canon_nan a).2 hn]; rfl
    | false => exact beq_eq_false_iff_ne.2 (fun e => by have := (canon_nan a).1 (by rw [← hx]; unfold nanC; omega); rw [hn] at this; cases this)
  have ny : ((y : Int) == 9221120237041090561) = nanF b := by
    cases hn : nanF b with
    | true => rw [hy, (canon_nan b).2 hn]; rfl
    | false => exact beq_eq_false_iff_ne.2 (fun e => by have := (canon_nan b).1 (by rw [← hy]; unfold nanC; omega); rw [hn] at this; cases this)
  have hx9 : x < 18446744073709551616 := by rw [hx]; exact canon_lt ha
  by_cases hxy : x = y
  · rw [if_pos hxy] at hR
    have e1 : ((x : Int) == (y : Int)) = true := by simp [hxy]
    have e2 : (x : Int) = (y : Int) := by omega
    subst hR
    clear nx ny hx hy hRe hxy
    go_enter Tryz.func20, Tryz.ntmps20
    go_wp2_with fail
    refine (h1.out _).mono ?_
    rintro e w' ⟨rfl, rfl⟩
    go_wp2_with fail
    refine (h2.out _).mono ?_
    rintro e w' ⟨rfl, rfl⟩
    go_wp2
    go_ret
    exact ⟨rfl, rfl⟩
  · rw [if_neg hxy] at hR
    have e1 : ((x : Int) == (y : Int)) = false := beq_eq_false_iff_ne.2 (by omega)
    have e2 : ¬ (x : Int) = (y : Int) := by omega
    cases na : nanF a with
    | true =>
      rw [na] at nx hR
      rw [if_pos (.inl rfl), if_pos rfl] at hR
      subst hR
      clear ny hx hy hRe hxy na
      go_enter Tryz.func20, Tryz.ntmps20
      go_wp2_with fail
      refine (h1.out _).mono ?_
      rintro e w' ⟨rfl, rfl⟩
      go_wp2_with fail
      refine (h2.out _).mono ?_
      rintro e w' ⟨rfl, rfl⟩
      go_wp2
      go_ret
      exact ⟨rfl, rfl⟩
    | false =>
      cases nb : nanF b with
      | true =>
        rw [na] at nx hR
        rw [nb] at ny hR
        rw [if_pos (.inr rfl), if_neg (by decide)] at hR
        subst hR
        clear hx hy hRe hxy na nb
        go_enter Tryz.func20, Tryz.ntmps20
        go_wp2_with fail
        refine (h1.out _).mono ?_
        rintro e w' ⟨rfl, rfl⟩
        go_wp2_with fail
        refine (h2.out _).mono ?_
        rintro e w' ⟨rfl, rfl⟩
        go_wp2
        go_ret
        exact ⟨rfl, rfl⟩
      | false =>
        rw [na] at nx hR
        rw [nb] at ny hR
        rw [if_neg (by decide)] at hR
        obtain ⟨o, ho⟩ : ∃ o, o = Ieee.double.order a b := ⟨_, rfl⟩
        have hof : FloatKind.f64.format.order a b = o := ho.symm
        rw [← ho] at hR
        obtain ⟨q, hq⟩ : ∃ q : Nat, (x : Int) / 9223372036854775808 = (q : Int) := ⟨x / 9223372036854775808, by omega⟩
        have hq1 : ((q : Int) == 1) = decide (9223372036854775808 ≤ x) := by
          by_cases h9 : 9223372036854775808 ≤ x
          · rw [decide_eq_true h9]; simp; omega
          · rw [decide_eq_false h9]; exact beq_eq_false_iff_ne.2 (by omega)
        clear hx hy hRe na nb ho
        have key : ∀ bl be : Bool, (o == some Ordering.lt) = bl → (o == some Ordering.eq) = be → R = if bl || (be && decide (9223372036854775808 ≤ x)) then -1 else 1 := fun bl be h5 h6 => by
          rw [hR, ← h5, ← h6]
          have d1 : (o = some Ordering.lt) ↔ (o == some Ordering.lt) = true := by simp
          have d2 : (o = some Ordering.eq) ↔ (o == some Ordering.eq) = true := by simp
          simp only [Bool.or_eq_true, Bool.and_eq_true, decide_eq_true_eq, ← d1, ← d2]
        obtain ⟨bl, hbl⟩ : ∃ bl : Bool, (o == some Ordering.lt) = bl := ⟨_, rfl⟩
        obtain ⟨be, hbe⟩ : ∃ be : Bool, (o == some Ordering.eq) = be := ⟨_, rfl⟩
        obtain ⟨bs, hbs⟩ : ∃ bs : Bool, bs = decide (9223372036854775808 ≤ x) := ⟨_, rfl⟩
        have hR2 := key bl be hbl hbe
        rw [← hbs] at hR2 hq1
        clear key hR hxy
        replace hbs := Lib.hid hbs
        cases bl <;> cases be <;> cases bs
        all_goals
          simp only [Bool.or_true, Bool.true_or, Bool.and_true, Bool.and_false, Bool.false_and, Bool.or_false, Bool.true_and, if_true, Bool.false_eq_true, if_false] at hR2
          subst hR2
          go_enter Tryz.func20, Tryz.ntmps20
          go_wp2_with fail
          refine (h1.out _).mono ?_
          rintro e w' ⟨rfl, rfl⟩
          go_wp2_with fail
          refine (h2.out _).mono ?_
          rintro e w' ⟨rfl, rfl⟩
          go_wp2
          go_ret
          exact ⟨rfl, rfl⟩
end Go.Proofs.YtgpfjhligiapdaaGreatDoor
