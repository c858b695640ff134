/- ItemChecks: its walk. -/
import Derived.Test.YteoalcmhdoopnaaDoorItAlive
namespace Go.Proofs.YteoalcmhdoopnaaDoor
open Go.RowKit

theorem bool_of (p : Prop) : ∃ q : Bool, q = true ↔ p := by
  by_cases h : p
  · exact ⟨true, by simp [h]⟩
  · exact ⟨false, by simp [h]⟩
theorem RF.mono' {w w' : World} {a : Option Addr} {n cap : Nat} {fs : List Fld} (h : RF w a n cap fs) (hw : ∀ ad u, w.cell? ad = some u → w'.cell? ad = some u) : RF w' a n cap fs := Reads.of_same h hw
theorem cell_below' {w w' : World} (hb : Below w.heap.size w w') : ∀ ad u, w.cell? ad = some u → w'.cell? ad = some u := fun ad u h => by rw [hb.cell (World.block_lt_of_cell? _ _ h)]; exact h
theorem owns_blk' {w : World} {base e size n cap : Nat} {ad : Addr} {xs : List Value} (h : w.ownsRow base e size (.slice (some ad) n cap) n xs) : ad = ⟨ad.block, 0, none⟩ ∧ base ≤ ad.block ∧ Blk w ad.block := by
  obtain ⟨_, h⟩ := h
  rcases h with ⟨h, _⟩ | ⟨g, cap', cur, h, hg, hh, _⟩
  · cases h
  · cases h; exact ⟨rfl, hg, _, _, hh⟩
theorem push_ne (t : ByteArray) : t ≠ t ++ ⟨#[120]⟩ := fun h => by
  have := congrArg ByteArray.size h
  rw [ByteArray.size_append] at this
  have : (⟨#[120]⟩ : ByteArray).size = 1 := rfl
  omega
theorem RF.touch {w : World} {kb n c : Nat} {f : Fld} {rest : List Fld} (h : RF w (some ⟨kb, 0, none⟩) n c (f :: rest)) (t' : ByteArray) :
    w.cell? ⟨kb, 1, none⟩ = some (.string f.2) ∧ RF (w.setCell ⟨kb, 1, none⟩ (.string t')) (some ⟨kb, 0, none⟩) n c ((f.1, t') :: rest) := by
  have hl := h.len
  obtain ⟨b, o, f', hf', ha, h0, h1⟩ := h.at (j := 0) (by simp at hl; omega)
  simp only [Option.some.injEq, Addr.mk.injEq, and_true] at ha
  obtain ⟨rfl, rfl⟩ := ha
  simp only [List.getElem?_cons_zero, Option.some.injEq] at hf'
  subst hf'
  have h1' : w.cell? ⟨kb, 1, none⟩ = some (.string f.2) := by simpa using h1
  refine ⟨h1', some ⟨kb, 0, none⟩, c, rfl, by have := Reads.len h; rw [flds_len] at this ⊢; simp at this ⊢; omega, fun j u hu => ⟨kb, 0, rfl, ?_⟩⟩
  rw [flds_cons] at hu
  have hold := fun (j : Nat) (u : Value) (hu : (flds (f :: rest))[j]? = some u) => (Reads.at h (j := j) (List.getElem?_eq_some_iff.1 hu).1)
  match j, hu with
  | 0, hu =>
    simp at hu; subst hu
    rw [cell_set_ne (by simp)]; simpa using h0
  | 1, hu =>
    simp at hu; subst hu
    exact cell_set_eq h1'
  | j + 2, hu =>
    have hu' : (flds (f :: rest))[j + 2]? = some u := by rw [flds_cons]; simpa using hu
    obtain ⟨b, o, hab, hc⟩ := hold (j + 2) u hu'
    simp only [Option.some.injEq, Addr.mk.injEq, and_true] at hab
    obtain ⟨rfl, rfl⟩ := hab
    rw [cell_set_ne (by simp)]
    exact hc _ _ hu'

set_option maxRecDepth 100000 in
set_option maxHeartbeats 12800000 in
theorem checksL9_any (k : Int) (t : ByteArray) (a : Option Addr) (n cap : Nat) (fs : List Fld) (k' : Int) (t' : ByteArray) (a' : Option Addr) (m cap' : Nat) (gs : List Fld) (key : ByteArray) (w : World)
    (hr : RF w a n cap fs) (hr' : RF w a' m cap' gs) (hN : Nums w) :
    Calls Tryd.prog 3 #[.agg #[.int .i64 k, .string t, .slice a n cap], .agg #[.int .i64 k', .string t', .slice a' m cap'], .string key] w fun e w' => e = .returned (.bool true) ∧ Below w.heap.size w w' := by
  obtain ⟨W1, hW1⟩ : ∃ W1, W1 = (w.alloc (.cells #[.int .i64 k, .string t, .slice a n cap] 24)).alloc (.cells #[.int .i64 k', .string t', .slice a' m cap'] 24) := ⟨_, rfl⟩
  have hb0 : Below w.heap.size w W1 := by rw [hW1]; exact ((Below.refl _ _).alloc (Nat.le_refl _) _).alloc (by simp) _
  have hs1 : W1.heap.size = w.heap.size + 2 := by rw [hW1]; simp
  have hBox : ∀ (i q : Nat), i < 2 → ∀ x : Value, (if i = 0 then #[.int .i64 k, .string t, .slice a n cap] else #[.int .i64 k', .string t', .slice a' m cap'])[q]? = some x → W1.cell? ⟨w.heap.size + i, q, none⟩ = some x := fun i q hi x h => by
    rcases i with _ | _ | i
    · rw [hW1, World.cell?_alloc_past _ _ _ (by simp), Nat.add_zero, World.cell?_alloc_new]; exact h
    · have e : w.heap.size + (0 + 1) = (w.alloc (.cells #[.int .i64 k, .string t, .slice a n cap] 24)).heap.size := by simp
      rw [hW1, e, World.cell?_alloc_new]; exact h
    · omega
  have hr1 := hr.below hb0
  have hr1' := hr'.below hb0
  have hl := hr.len
  have hN1 := hN.below hb0
  replace hl := Lib.hid hl
  replace hW1 := Lib.hid hW1
  replace hb0 := Lib.hid hb0
  replace hBox := Lib.hid hBox
  replace hr1 := Lib.hid hr1
  replace hr1' := Lib.hid hr1'
  replace hs1 := Lib.hid hs1
  replace hN1 := Lib.hid hN1
  clear hr hr' hN
  go_enter Tryd.func3, Tryd.ntmps3
  go_upto_region 1 with fail
  rw [← hW1.out]
  go_wp2_with fail
  refine (alive09_any W1 hN1.out).mono ?_
  rintro e w1 ⟨rfl, hb1⟩
  have g0 := (fun i q hi x hx => cell_below' hb1 _ _ (hBox.out i q hi x hx)) 0 0 (by omega) (.int .i64 k) rfl
  have g1 := (fun i q hi x hx => cell_below' hb1 _ _ (hBox.out i q hi x hx)) 0 1 (by omega) (.string t) rfl
  have g2 := (fun i q hi x hx => cell_below' hb1 _ _ (hBox.out i q hi x hx)) 0 2 (by omega) (.slice a n cap) rfl
  have k0 := (fun i q hi x hx => cell_below' hb1 _ _ (hBox.out i q hi x hx)) 1 0 (by omega) (.int .i64 k') rfl
  have k1 := (fun i q hi x hx => cell_below' hb1 _ _ (hBox.out i q hi x hx)) 1 1 (by omega) (.string t') rfl
  have k2 := (fun i q hi x hx => cell_below' hb1 _ _ (hBox.out i q hi x hx)) 1 2 (by omega) (.slice a' m cap') rfl
  simp only [Nat.add_zero] at g0 g1 g2 k0 k1 k2
  go_wp2_with fail
  refine (great_any k t a n cap fs _ (hr1.out.below hb1)).mono ?_
  rintro e w2 ⟨g, rfl, hg, hb2⟩
  have hb12 := hb1.trans (hb2.mono hb1.size)
  have hbw2 := hb0.out.trans (hb12.mono hb0.out.size)
  clear g0 g1 g2 k0 k1 k2 hb2 hb1
  replace hg := Lib.hid hg
  cases g with
  | true =>
    clear hb12
    go_wp2
    go_ret
    exact ⟨rfl, hbw2⟩
  | false =>
  obtain ⟨hn3, ht3, hm3⟩ := hg.out rfl
  clear hg
  have g0 := (fun i q hi x hx => cell_below' hb12 _ _ (hBox.out i q hi x hx)) 0 0 (by omega) (.int .i64 k) rfl
  have g1 := (fun i q hi x hx => cell_below' hb12 _ _ (hBox.out i q hi x hx)) 0 1 (by omega) (.string t) rfl
  have g2 := (fun i q hi x hx => cell_below' hb12 _ _ (hBox.out i q hi x hx)) 0 2 (by omega) (.slice a n cap) rfl
  have k0 := (fun i q hi x hx => cell_below' hb12 _ _ (hBox.out i q hi x hx)) 1 0 (by omega) (.int .i64 k') rfl
  have k1 := (fun i q hi x hx => cell_below' hb12 _ _ (hBox.out i q hi x hx)) 1 1 (by omega) (.string t') rfl
  have k2 := (fun i q hi x hx => cell_below' hb12 _ _ (hBox.out i q hi x hx)) 1 2 (by omega) (.slice a' m cap') rfl
  simp only [Nat.add_zero] at g0 g1 g2 k0 k1 k2
  replace hm3 := Lib.hid hm3
  go_wp2_with fail
  refine (great_any k' t' a' m cap' gs _ (hr1'.out.below hb12)).mono ?_
  rintro e w3 ⟨g, rfl, hg, hb3⟩
  have hb13 := hb12.trans (hb3.mono hb12.size)
  have hbw3 := hb0.out.trans (hb13.mono hb0.out.size)
  clear g0 g1 g2 k0 k1 k2 hb3 hb12 hbw2 hg
  cases g with
  | true =>
    clear hb13
    go_wp2
    go_ret
    exact ⟨rfl, hbw3⟩
  | false =>
  by_cases hkey : 600 < key.size
  · have hkey' : (600 : Int) < key.size := by omega
    clear hb13
    go_wp2
    go_ret
    exact ⟨rfl, hbw3⟩
  have hkey' : ¬ (600 : Int) < key.size := by omega
  have hn9 : n ≤ 100000000 := by omega
  have hn5 : n ≤ 100000 := by omega
  have hk6 : key.size ≤ 1000000 := by omega
  have ht6 : t.size ≤ 1000000 := by omega
  have hm6 : ∀ f ∈ fs, modestF f := fun f hf => by have := hm3.out f hf; unfold smallF at this; unfold modestF; omega
  replace hm6 := Lib.hid hm6
  have g0 := (fun i q hi x hx => cell_below' hb13 _ _ (hBox.out i q hi x hx)) 0 0 (by omega) (.int .i64 k) rfl
  have g1 := (fun i q hi x hx => cell_below' hb13 _ _ (hBox.out i q hi x hx)) 0 1 (by omega) (.string t) rfl
  have g2 := (fun i q hi x hx => cell_below' hb13 _ _ (hBox.out i q hi x hx)) 0 2 (by omega) (.slice a n cap) rfl
  have k0 := (fun i q hi x hx => cell_below' hb13 _ _ (hBox.out i q hi x hx)) 1 0 (by omega) (.int .i64 k') rfl
  have k1 := (fun i q hi x hx => cell_below' hb13 _ _ (hBox.out i q hi x hx)) 1 1 (by omega) (.string t') rfl
  have k2 := (fun i q hi x hx => cell_below' hb13 _ _ (hBox.out i q hi x hx)) 1 2 (by omega) (.slice a' m cap') rfl
  simp only [Nat.add_zero] at g0 g1 g2 k0 k1 k2
  go_wp2_with fail
  refine (icopy_any k t a n cap fs _ (hr1.out.below hb13) hn5).mono ?_
  rintro e w4 ⟨a4, c4, rfl, hown, hb4⟩
  have hb14 := hb13.trans (hb4.mono hb13.size)
  have hbw4 := hb0.out.trans (hb14.mono hb0.out.size)
  have hown4 := owns_block hown
  clear g0 g1 g2 k0 k1 k2 hbw3
  obtain ⟨W5, hW5⟩ : ∃ W5, W5 = w4.alloc (.cells #[.int .i64 k, .string t, .slice a4 n c4] 24) := ⟨_, rfl⟩
  have hb45 : Below w4.heap.size w4 W5 := by rw [hW5]; exact (Below.refl _ _).alloc (Nat.le_refl _) _
  have hs5 : W5.heap.size = w4.heap.size + 1 := by rw [hW5]; simp
  have hC : ∀ q x, #[.int .i64 k, .string t, .slice a4 n c4][q]? = some x → W5.cell? ⟨w4.heap.size, q, none⟩ = some x := fun q x h => by rw [hW5, World.cell?_alloc_new]; exact h
  have hb15 := hb14.trans (hb45.mono hb14.size)
  have hbw5 := hb0.out.trans (hb15.mono hb0.out.size)
  have hown5 := owns_fr hown (Fr.of_below hb45) (fun q hq => by have := (hown4 q hq).2; omega)
  have hs3 : W1.heap.size ≤ w3.heap.size := hb13.size
  replace hW5 := Lib.hid hW5
  replace hown5 := Lib.hid hown5
  replace hown4 := Lib.hid hown4
  clear hown hb13 hb4 hb14 hbw4
  go_upto_region 6 with fail
  rw [← hW5.out]
  have g0 := (fun i q hi x hx => cell_below' hb15 _ _ (hBox.out i q hi x hx)) 0 0 (by omega) (.int .i64 k) rfl
  have g1 := (fun i q hi x hx => cell_below' hb15 _ _ (hBox.out i q hi x hx)) 0 1 (by omega) (.string t) rfl
  have g2 := (fun i q hi x hx => cell_below' hb15 _ _ (hBox.out i q hi x hx)) 0 2 (by omega) (.slice a n cap) rfl
  have k0 := (fun i q hi x hx => cell_below' hb15 _ _ (hBox.out i q hi x hx)) 1 0 (by omega) (.int .i64 k') rfl
  have k1 := (fun i q hi x hx => cell_below' hb15 _ _ (hBox.out i q hi x hx)) 1 1 (by omega) (.string t') rfl
  have k2 := (fun i q hi x hx => cell_below' hb15 _ _ (hBox.out i q hi x hx)) 1 2 (by omega) (.slice a' m cap') rfl
  simp only [Nat.add_zero] at g0 g1 g2 k0 k1 k2
  have c0 : W5.cell? ⟨w4.heap.size, 0, none⟩ = some (.int .i64 k) := hC 0 _ rfl
  have c1 : W5.cell? ⟨w4.heap.size, 1, none⟩ = some (.string t) := hC 1 _ rfl
  have c2 : W5.cell? ⟨w4.heap.size, 2, none⟩ = some (.slice a4 n c4) := hC 2 _ rfl
  have hr5 := hr1.out.below hb15
  have hr5' := hr1'.out.below hb15
  have hc5 := RF.of_owns hown5.out
  have z1 : w.heap.size < W5.heap.size := World.block_lt_of_cell? _ _ g0
  have z2 : w.heap.size + 1 < W5.heap.size := World.block_lt_of_cell? _ _ k0
  have z3 : w4.heap.size < W5.heap.size := World.block_lt_of_cell? _ _ c0
  obtain ⟨qr, hqr⟩ := bool_of (RightP k t fs)
  obtain ⟨qs, hqs⟩ := bool_of (SameI k t fs k' t' gs)
  have hqt : true = true ↔ SameI k t fs k t fs := ⟨fun _ => ⟨rfl, rfl, rfl⟩, fun _ => rfl⟩
  replace hqr := Lib.hid hqr
  replace hqs := Lib.hid hqs
  replace hqt := Lib.hid hqt
  replace hr5 := Lib.hid hr5
  replace hr5' := Lib.hid hr5'
  replace hc5 := Lib.hid hc5
  replace hC := Lib.hid hC
  replace hs5 := Lib.hid hs5
  refine wp_region_grow (by kernel_rfl) (by kernel_rfl) ?_
  cases qr <;> cases qs
  all_goals
    repeat (go_big_quiet_step ((first
      | (go_at_call 11; (with_reducible exact quiet_grow (qp_q (right_any k t a n cap fs _ (hr5.out.below (grow_below _ _)) hn9) hqr.out)))
      | (go_at_call 12; (with_reducible exact quiet_grow (qp_q (rright_any k t a n cap fs _ (hr5.out.below (grow_below _ _)) hn9) hqr.out)))
      | (go_at_call 13; (with_reducible exact quiet_grow (qp_q (isame_any k t a n cap fs k' t' a' m cap' gs _ (hr5.out.below (grow_below _ _)) (hr5'.out.below (grow_below _ _)) hn9) hqs.out)))
      | (go_at_call 14; (with_reducible exact quiet_grow (qp_q (rsame9_any k t a n cap fs k' t' a' m cap' gs _ (hr5.out.below (grow_below _ _)) (hr5'.out.below (grow_below _ _)) hn9) hqs.out)))
      | (go_at_call 14; (with_reducible exact quiet_grow (qp_q (rsame9_any k t a n cap fs k t a4 n c4 fs _ (hr5.out.below (grow_below _ _)) (hc5.out.below (grow_below _ _)) hn9) hqt.out))))))
    refine wpQuiet_nil ?_
    rintro _ ⟨xq, rfl⟩
    have hb56 := grow_below W5 xq
    generalize grow W5 xq = w6 at *
    have hb16 := hb15.trans (hb56.mono hb15.size)
    have hbw6 := hb0.out.trans (hb16.mono hb0.out.size)
    have hown6 := owns_fr hown5.out (Fr.of_below hb56) (fun q hq => by have := (hown4.out q hq).2; have := hs5.out; omega)
    have hC6 : ∀ q y, #[.int .i64 k, .string t, .slice a4 n c4][q]? = some y → w6.cell? ⟨w4.heap.size, q, none⟩ = some y := fun q y h => cell_below' hb56 _ _ (hC.out q y h)
    have hN6 := hN1.out.below hb16
    clear g0 g1 g2 k0 k1 k2 c0 c1 c2 z1 z2 z3
    replace hown6 := Lib.hid hown6
    replace hN6 := Lib.hid hN6
    go_upto_region 8 with fail
    have c2 : w6.cell? ⟨w4.heap.size, 2, none⟩ = some (.slice a4 n c4) := hC6 2 _ rfl
    replace hC6 := Lib.hid hC6
    by_cases hn0 : n = 0
    · have b9 : decide (0 < n) = false := by simp; omega
      clear hn0
      have g0 := (fun i q hi x hx => (cell_below' hb16) _ _ (hBox.out i q hi x hx)) 0 0 (by omega) (.int .i64 k) rfl
      have g1 := (fun i q hi x hx => (cell_below' hb16) _ _ (hBox.out i q hi x hx)) 0 1 (by omega) (.string t) rfl
      have g2 := (fun i q hi x hx => (cell_below' hb16) _ _ (hBox.out i q hi x hx)) 0 2 (by omega) (.slice a n cap) rfl
      have k0 := (fun i q hi x hx => (cell_below' hb16) _ _ (hBox.out i q hi x hx)) 1 0 (by omega) (.int .i64 k') rfl
      have k1 := (fun i q hi x hx => (cell_below' hb16) _ _ (hBox.out i q hi x hx)) 1 1 (by omega) (.string t') rfl
      have k2 := (fun i q hi x hx => (cell_below' hb16) _ _ (hBox.out i q hi x hx)) 1 2 (by omega) (.slice a' m cap') rfl
      simp only [Nat.add_zero] at g0 g1 g2 k0 k1 k2
      have z1 : w.heap.size < w6.heap.size := World.block_lt_of_cell? _ _ g0
      have z2 : w.heap.size + 1 < w6.heap.size := World.block_lt_of_cell? _ _ k0
      have hrL := hr1.out.mono' (cell_below' hb16)
      replace hrL := Lib.hid hrL
      go_upto_region 12 with fail
      obtain ⟨qr, hqr⟩ := bool_of (RightP k t fs)
      replace hqr := Lib.hid hqr
      refine wp_region_grow (by kernel_rfl) (by kernel_rfl) ?_
      cases qr
      all_goals
        repeat (go_big_quiet_step ((first
          | (go_at_call 12; (with_reducible exact quiet_grow (qp_q (rright_any k t a n cap fs _ (hrL.out.below (grow_below _ _)) hn9) hqr.out)))
          | (go_at_call 15; (with_reducible exact quiet_grow (cost_any key k t a n cap fs _ (hrL.out.below (grow_below _ _)) hn5 hk6 ht6 hm6.out (Nums.below hN6.out (grow_below _ _)))))
          | (go_at_call 16; (with_reducible exact quiet_grow (rcost_any key k t a n cap fs _ (hrL.out.below (grow_below _ _)) hn5 hk6 ht6 hm6.out))))))
        refine wpQuiet_nil ?_
        rintro _ ⟨xq, rfl⟩
        have hbq := hbw6.trans ((grow_below _ xq).mono hbw6.size)
        clear g0 g1 g2 k0 k1 k2
        go_wp2
        go_ret
        exact ⟨by first | rfl | simp, hbq⟩
    · have b9 : 0 < n := by omega
      have hnp : (0 : Int) < (n : Int) := by omega
      obtain ⟨f, rest, hfr⟩ : ∃ f rest, fs = f :: rest := by
        have := hl.out
        cases hf : fs with
        | nil => rw [hf] at this; simp at this; omega
        | cons f rest => exact ⟨f, rest, rfl⟩
      have hfs : f.2.size ≤ 5000 := (hm3.out f (by rw [hfr]; simp)).2
      have hown7 := hown6.out
      rw [hfr] at hown7
      obtain ⟨ad, rfl⟩ : ∃ ad, a4 = some ad := by
        cases a4 with
        | some ad => exact ⟨ad, rfl⟩
        | none => have := (RF.of_owns hown6.out).nil; omega
      obtain ⟨q1, q2, q3⟩ := owns_blk' hown6.out
      have hk4 := (hown4.out ad.block rfl).2
      obtain ⟨kb, hkb⟩ : ∃ kb, ad = ⟨kb, 0, none⟩ := ⟨_, q1⟩
      subst hkb
      replace q2 : w3.heap.size + 2 ≤ kb := q2
      replace hk4 : kb < w4.heap.size := hk4
      have t1 := RF.touch (RF.of_owns hown7) (f.2 ++ ⟨#[120]⟩)
      obtain ⟨t01, hrv9⟩ := t1
      have f01 := q3.frz 1 none
      replace hfr := Lib.hid hfr
      replace hrv9 := Lib.hid hrv9
      clear q1 hown7
      go_upto_region 10 with fail
      obtain ⟨W9, hW9⟩ : ∃ W9, W9 = w6.setCell ⟨kb, 1, none⟩ (.string (f.2 ++ ⟨#[120]⟩)) := ⟨_, rfl⟩
      rw [← hW9]
      have hW13 : W1.heap.size ≤ kb := by omega
      have hb19 : Below W1.heap.size W1 W9 := by rw [hW9]; exact hb16.setCell hW13 _
      have hbw9 : Below w.heap.size w W9 := hb0.out.trans (hb19.mono hb0.out.size)
      have hC9 : ∀ q y, #[.int .i64 k, .string t, .slice (some ⟨kb, 0, none⟩) n c4][q]? = some y → W9.cell? ⟨w4.heap.size, q, none⟩ = some y := fun q y h => by rw [hW9, cell_set_ne (by intro e; simp only [Addr.mk.injEq] at e; omega)]; exact hC6.out q y h
      have hu9 := hr1.out.below hb19
      have hv9 : RF W9 (some ⟨kb, 0, none⟩) n c4 ((f.1, f.2 ++ ⟨#[120]⟩) :: rest) := by rw [hW9]; exact hrv9.out
      have hN9 := hN1.out.below hb19
      have hqn : false = true ↔ SameI k t fs k t ((f.1, f.2 ++ ⟨#[120]⟩) :: rest) := ⟨fun h => (by cases h), fun h => by
        have h1 := h.2.2
        rw [hfr.out] at h1
        simp only [List.cons.injEq] at h1
        exact absurd (congrArg Prod.snd h1.1) (push_ne f.2)⟩
      clear c2 t01 f01 q2 q3
      have g0 := (fun i q hi x hx => cell_below' hb19 _ _ (hBox.out i q hi x hx)) 0 0 (by omega) (.int .i64 k) rfl
      have g1 := (fun i q hi x hx => cell_below' hb19 _ _ (hBox.out i q hi x hx)) 0 1 (by omega) (.string t) rfl
      have g2 := (fun i q hi x hx => cell_below' hb19 _ _ (hBox.out i q hi x hx)) 0 2 (by omega) (.slice a n cap) rfl
      have k0 := (fun i q hi x hx => cell_below' hb19 _ _ (hBox.out i q hi x hx)) 1 0 (by omega) (.int .i64 k') rfl
      have k1 := (fun i q hi x hx => cell_below' hb19 _ _ (hBox.out i q hi x hx)) 1 1 (by omega) (.string t') rfl
      have k2 := (fun i q hi x hx => cell_below' hb19 _ _ (hBox.out i q hi x hx)) 1 2 (by omega) (.slice a' m cap') rfl
      simp only [Nat.add_zero] at g0 g1 g2 k0 k1 k2
      have c0 : W9.cell? ⟨w4.heap.size, 0, none⟩ = some (.int .i64 k) := hC9 0 _ rfl
      have c1 : W9.cell? ⟨w4.heap.size, 1, none⟩ = some (.string t) := hC9 1 _ rfl
      have c2 : W9.cell? ⟨w4.heap.size, 2, none⟩ = some (.slice (some ⟨kb, 0, none⟩) n c4) := hC9 2 _ rfl
      replace hW9 := Lib.hid hW9
      replace hC9 := Lib.hid hC9
      replace hu9 := Lib.hid hu9
      replace hv9 := Lib.hid hv9
      replace hN9 := Lib.hid hN9
      replace hqn := Lib.hid hqn
      go_wp2_with fail
      refine (qp_q (isame_any k t a n cap fs k t (some ⟨kb, 0, none⟩) n c4 _ _ hu9.out hv9.out hn9) hqn.out).mono ?_
      rintro e w10 ⟨rfl, hb10⟩
      clear g0 g1 g2 k0 k1 k2 c0 c1 c2
      have hb1t := hb19.trans (hb10.mono hb19.size)
      have hbwt := hbw9.trans (hb10.mono hbw9.size)
      have hNt := hN9.out.below hb10
      replace hNt := Lib.hid hNt
      have g0 := (fun i q hi x hx => (cell_below' hb1t) _ _ (hBox.out i q hi x hx)) 0 0 (by omega) (.int .i64 k) rfl
      have g1 := (fun i q hi x hx => (cell_below' hb1t) _ _ (hBox.out i q hi x hx)) 0 1 (by omega) (.string t) rfl
      have g2 := (fun i q hi x hx => (cell_below' hb1t) _ _ (hBox.out i q hi x hx)) 0 2 (by omega) (.slice a n cap) rfl
      have k0 := (fun i q hi x hx => (cell_below' hb1t) _ _ (hBox.out i q hi x hx)) 1 0 (by omega) (.int .i64 k') rfl
      have k1 := (fun i q hi x hx => (cell_below' hb1t) _ _ (hBox.out i q hi x hx)) 1 1 (by omega) (.string t') rfl
      have k2 := (fun i q hi x hx => (cell_below' hb1t) _ _ (hBox.out i q hi x hx)) 1 2 (by omega) (.slice a' m cap') rfl
      simp only [Nat.add_zero] at g0 g1 g2 k0 k1 k2
      have z1 : w.heap.size < w10.heap.size := World.block_lt_of_cell? _ _ g0
      have z2 : w.heap.size + 1 < w10.heap.size := World.block_lt_of_cell? _ _ k0
      have hrL := hr1.out.mono' (cell_below' hb1t)
      replace hrL := Lib.hid hrL
      go_upto_region 12 with fail
      obtain ⟨qr, hqr⟩ := bool_of (RightP k t fs)
      replace hqr := Lib.hid hqr
      refine wp_region_grow (by kernel_rfl) (by kernel_rfl) ?_
      cases qr
      all_goals
        repeat (go_big_quiet_step ((first
          | (go_at_call 12; (with_reducible exact quiet_grow (qp_q (rright_any k t a n cap fs _ (hrL.out.below (grow_below _ _)) hn9) hqr.out)))
          | (go_at_call 15; (with_reducible exact quiet_grow (cost_any key k t a n cap fs _ (hrL.out.below (grow_below _ _)) hn5 hk6 ht6 hm6.out (Nums.below hNt.out (grow_below _ _)))))
          | (go_at_call 16; (with_reducible exact quiet_grow (rcost_any key k t a n cap fs _ (hrL.out.below (grow_below _ _)) hn5 hk6 ht6 hm6.out))))))
        refine wpQuiet_nil ?_
        rintro _ ⟨xq, rfl⟩
        have hbq := hbwt.trans ((grow_below _ xq).mono hbwt.size)
        clear g0 g1 g2 k0 k1 k2
        go_wp2
        go_ret
        exact ⟨by first | rfl | simp, hbq⟩
end Go.Proofs.YteoalcmhdoopnaaDoor
