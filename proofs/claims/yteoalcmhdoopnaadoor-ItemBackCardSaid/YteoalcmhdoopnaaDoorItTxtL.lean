/- ItemTexts: its walk. -/
import Derived.Test.YteoalcmhdoopnaaDoorItAll
import Derived.Test.YteoalcmhdoopnaaDoorItChkL
namespace Go.Proofs.YteoalcmhdoopnaaDoor
open Go.RowKit

theorem box3 {w : World} {o : Nat} {u0 u1 u2 : Value} (h0 : w.cell? ⟨o, 0, none⟩ = some u0) (h1 : w.cell? ⟨o, 1, none⟩ = some u1) (h2 : w.cell? ⟨o, 2, none⟩ = some u2) (hb : Blk w o) (x y z : Value) :
    (((w.setCell ⟨o, 0, none⟩ x).setCell ⟨o, 1, none⟩ y).setCell ⟨o, 2, none⟩ z).cell? ⟨o, 0, none⟩ = some x ∧ (((w.setCell ⟨o, 0, none⟩ x).setCell ⟨o, 1, none⟩ y).setCell ⟨o, 2, none⟩ z).cell? ⟨o, 1, none⟩ = some y ∧
    (((w.setCell ⟨o, 0, none⟩ x).setCell ⟨o, 1, none⟩ y).setCell ⟨o, 2, none⟩ z).cell? ⟨o, 2, none⟩ = some z ∧ Blk (((w.setCell ⟨o, 0, none⟩ x).setCell ⟨o, 1, none⟩ y).setCell ⟨o, 2, none⟩ z) o ∧
    Fr (fun q => q = o) w (((w.setCell ⟨o, 0, none⟩ x).setCell ⟨o, 1, none⟩ y).setCell ⟨o, 2, none⟩ z) := by
  refine ⟨?_, ?_, ?_, ((hb.setCell _ _).setCell _ _).setCell _ _, (((Fr.refl (fun q => q = o) w).setCell (p := ⟨o, 0, none⟩) (fun _ => rfl) _).setCell (p := ⟨o, 1, none⟩) (fun _ => rfl) _).setCell (p := ⟨o, 2, none⟩) (fun _ => rfl) _⟩
  · rw [cell_set_ne (by simp), cell_set_ne (by simp)]; exact cell_set_eq h0
  · rw [cell_set_ne (by simp)]; exact cell_set_eq (by rw [cell_set_ne (by simp)]; exact h1)
  · exact cell_set_eq (by rw [cell_set_ne (by simp), cell_set_ne (by simp)]; exact h2)
theorem RF.blk {w : World} {ad : Addr} {n cap : Nat} {fs : List Fld} (h : RF w (some ad) n cap fs) (hn : 0 < n) : ad.block < w.heap.size := by
  obtain ⟨b, o, f, _, hab, h0, _⟩ := h.at hn
  cases hab
  exact World.block_lt_of_cell? _ _ h0
theorem RF.apart {w w' : World} {a : Option Addr} {n cap o : Nat} {fs : List Fld} (h : RF w a n cap fs) (hf : Fr (fun q => q = o) w w') (hne : ∀ ad, a = some ad → 0 < n → ad.block ≠ o) : RF w' a n cap fs := by
  rcases Nat.eq_zero_or_pos n with e | e
  · subst e
    have : fs = [] := List.length_eq_zero_iff.1 h.len
    subst this
    exact Reads.nil _ _ _ _
  · exact Reads.fr h hf (fun ad m c he hq => by cases he; exact hne ad rfl e hq)
theorem same_self (k : Int) (t : ByteArray) (fs : List Fld) : true = true ↔ SameI k t fs k t fs := ⟨fun _ => ⟨rfl, rfl, rfl⟩, fun _ => rfl⟩
set_option maxRecDepth 100000 in
set_option maxHeartbeats 12800000 in
theorem textsL_any (k : Int) (t : ByteArray) (a : Option Addr) (n cap : Nat) (fs : List Fld) (name text : ByteArray) (w : World) (hr : RF w a n cap fs) (hN : Nums w) :
    Calls Tryd.prog 6 #[.agg #[.int .i64 k, .string t, .slice a n cap], .string name, .string text] w fun e w' => e = .returned (.bool true) ∧ Below w.heap.size w w' := by
  obtain ⟨W1, hW1⟩ : ∃ W, W = w.alloc (.cells #[.int .i64 k, .string t, .slice a n cap] 24) := ⟨_, rfl⟩
  have hb0 : Below w.heap.size w W1 := by rw [hW1]; exact (Below.refl _ _).alloc (Nat.le_refl _) _
  have g0 : W1.cell? ⟨w.heap.size, 0, none⟩ = some (.int .i64 k) := by rw [hW1, World.cell?_alloc_new]; rfl
  have g1 : W1.cell? ⟨w.heap.size, 1, none⟩ = some (.string t) := by rw [hW1, World.cell?_alloc_new]; rfl
  have g2 : W1.cell? ⟨w.heap.size, 2, none⟩ = some (.slice a n cap) := by rw [hW1, World.cell?_alloc_new]; rfl
  have hblg : Blk W1 w.heap.size := by rw [hW1]; exact Blk.new _ _ _
  have hg8 : w.heap.size < W1.heap.size := hblg.lt
  replace hg8 := Lib.hid hg8
  have hr1 := hr.below hb0
  have hN1 := hN.below hb0
  have hl := hr.len
  replace hl := Lib.hid hl
  replace hW1 := Lib.hid hW1
  replace hr1 := Lib.hid hr1
  replace hN1 := Lib.hid hN1
  clear hr hN hblg
  go_enter Tryd.func6, Tryd.ntmps6
  go_upto_region 1 with fail
  rw [← hW1.out]
  go_wp2_with fail
  refine (alive09_any W1 hN1.out).mono ?_
  rintro e w1 ⟨rfl, hb1⟩
  replace g0 := bcell hb1 g0
  replace g1 := bcell hb1 g1
  replace g2 := bcell hb1 g2
  go_wp2_with fail
  refine (great_any k t a n cap fs _ (hr1.out.below hb1)).mono ?_
  rintro e w2 ⟨g, rfl, hg, hb2⟩
  have hb12 := hb1.trans (hb2.mono hb1.size)
  have hbw2 := hb0.trans (hb12.mono hb0.size)
  replace g0 := bcell hb2 g0
  replace g1 := bcell hb2 g1
  replace g2 := bcell hb2 g2
  replace hg := Lib.hid hg
  cases g with
  | true =>
    go_wp2
    go_ret
    exact ⟨rfl, hbw2⟩
  | false =>
  obtain ⟨hn3, ht3, hm3⟩ := hg.out rfl
  clear hg hm3
  have hn9 : n ≤ 100000000 := by omega
  have hn5 : n ≤ 100000 := by omega
  obtain ⟨qf, hqf⟩ := bool_of (FitsP k t fs)
  replace hqf := Lib.hid hqf
  go_wp2_with fail
  refine (qp_q (fits_any k t a n cap fs _ (hr1.out.below hb12) hn9) hqf.out).mono ?_
  rintro e w3 ⟨rfl, hb3⟩
  have hb13 := hb12.trans (hb3.mono hb12.size)
  have hbw3 := hb0.trans (hb13.mono hb0.size)
  replace g0 := bcell hb3 g0
  replace g1 := bcell hb3 g1
  replace g2 := bcell hb3 g2
  cases qf with
  | false =>
    go_wp2
    go_ret
    exact ⟨rfl, hbw3⟩
  | true =>
  have hF := fitI_of hl.out (hqf.out.1 (by trivial))
  clear hqf
  by_cases hname : 600 < name.size
  · have hname' : (600 : Int) < name.size := by omega
    go_wp2
    go_ret
    exact ⟨rfl, hbw3⟩
  have hname' : ¬ (600 : Int) < name.size := by omega
  by_cases htext : 5000 < text.size
  · have htext' : (5000 : Int) < text.size := by omega
    go_wp2
    go_ret
    exact ⟨rfl, hbw3⟩
  have htext' : ¬ (5000 : Int) < text.size := by omega
  have hts : text.size ≤ 5000 := by omega
  obtain ⟨k1, t1, fs1, e1, hap⟩ : ∃ k1 t1 fs1 e1, appS k t fs text = (k1, t1, fs1, e1) := ⟨_, _, _, _, rfl⟩
  obtain ⟨T, bg, eg, hge⟩ : ∃ T bg eg, getS k fs name = (T, bg, eg) := ⟨_, _, _, rfl⟩
  obtain ⟨k2, t2, fs2, b2, e2, hpu⟩ : ∃ k2 t2 fs2 b2 e2, putS k t fs name text = (k2, t2, fs2, b2, e2) := ⟨_, _, _, _, _, rfl⟩
  obtain ⟨k3, t3, fs3, b3, e3, hdr⟩ : ∃ k3 t3 fs3 b3 e3, dropS k t fs name = (k3, t3, fs3, b3, e3) := ⟨_, _, _, _, _, rfl⟩
  replace hap := Lib.hid hap
  replace hge := Lib.hid hge
  replace hpu := Lib.hid hpu
  replace hdr := Lib.hid hdr
  replace hF := Lib.hid hF
  -- a copy
  go_wp2_with fail
  refine (icopy_any k t a n cap fs _ (hr1.out.below hb13) hn5).mono ?_
  rintro e w4 ⟨a7, c7, rfl, hown7, hb4⟩
  replace g0 := bcell hb4 g0
  replace g1 := bcell hb4 g1
  replace g2 := bcell hb4 g2
  have hb14 := hb13.trans (hb4.mono hb13.size)
  have hr7 := RF.of_owns hown7
  have hp7 : ∀ ad, a7 = some ad → 0 < n → ad.block < w4.heap.size := fun ad he h => by subst he; exact hr7.blk h
  have hpa : ∀ ad, a = some ad → 0 < n → ad.block < W1.heap.size := fun ad he h => by subst he; exact hr1.out.blk h
  replace hp7 := Lib.hid hp7
  replace hpa := Lib.hid hpa
  obtain ⟨W5, hW5⟩ : ∃ W, W = w4.alloc (.cells #[.int .i64 k, .string t, .slice a7 n c7] 24) := ⟨_, rfl⟩
  have hb5 : Below w4.heap.size w4 W5 := by rw [hW5]; exact (Below.refl _ _).alloc (Nat.le_refl _) _
  have s0 : W5.cell? ⟨w4.heap.size, 0, none⟩ = some (.int .i64 k) := by rw [hW5, World.cell?_alloc_new]; rfl
  have s1 : W5.cell? ⟨w4.heap.size, 1, none⟩ = some (.string t) := by rw [hW5, World.cell?_alloc_new]; rfl
  have s2 : W5.cell? ⟨w4.heap.size, 2, none⟩ = some (.slice a7 n c7) := by rw [hW5, World.cell?_alloc_new]; rfl
  have hbls : Blk W5 w4.heap.size := by rw [hW5]; exact Blk.new _ _ _
  have hb15 := hb14.trans (hb5.mono hb14.size)
  have hr7 := hr7.below hb5
  replace g0 := bcell hb5 g0
  replace g1 := bcell hb5 g1
  replace g2 := bcell hb5 g2
  go_upto_region 6 with fail
  rw [← hW5]
  replace hW5 := Lib.hid hW5
  replace hr7 := Lib.hid hr7
  clear hown7 hbls hb12 hb13 hb14 hb2 hb3 hb4 hbw2 hbw3 hb1
  -- a text more
  go_wp2_with fail
  refine (iappend_all (hr1.out.below hb15) hF.out hap.out).mono ?_
  rintro e w6 ⟨a8, n8, c8, rfl, hr8, hn8, hb6⟩
  replace g0 := bcell hb6 g0
  replace g1 := bcell hb6 g1
  replace g2 := bcell hb6 g2
  replace s0 := bcell hb6 s0
  replace s1 := bcell hb6 s1
  replace s2 := bcell hb6 s2
  obtain ⟨W7, hW7⟩ : ∃ W, W = w6.alloc (.cells #[.int .i64 k1, .string t1, .slice a8 n8 c8] 24) := ⟨_, rfl⟩
  have hb7 : Below w6.heap.size w6 W7 := by rw [hW7]; exact (Below.refl _ _).alloc (Nat.le_refl _) _
  have u0 : W7.cell? ⟨w6.heap.size, 0, none⟩ = some (.int .i64 k1) := by rw [hW7, World.cell?_alloc_new]; rfl
  have u1 : W7.cell? ⟨w6.heap.size, 1, none⟩ = some (.string t1) := by rw [hW7, World.cell?_alloc_new]; rfl
  have u2 : W7.cell? ⟨w6.heap.size, 2, none⟩ = some (.slice a8 n8 c8) := by rw [hW7, World.cell?_alloc_new]; rfl
  have hblu : Blk W7 w6.heap.size := by rw [hW7]; exact Blk.new _ _ _
  have hb17 := hb15.trans ((hb6.trans (hb7.mono hb6.size)).mono hb15.size)
  have hr7 := hr7.out.below (hb6.trans (hb7.mono hb6.size))
  have hr8 := hr8.below hb7
  replace g0 := bcell hb7 g0
  replace g1 := bcell hb7 g1
  replace g2 := bcell hb7 g2
  replace s0 := bcell hb7 s0
  replace s1 := bcell hb7 s1
  replace s2 := bcell hb7 s2
  go_upto_region 7 with fail
  rw [← hW7]
  replace hW7 := Lib.hid hW7
  replace hr7 := Lib.hid hr7
  replace hr8 := Lib.hid hr8
  clear hblu hb6 hb7 hb5
  go_wp2_with fail
  refine (rappend_all (hr1.out.below hb17) hF.out hts hap.out).mono ?_
  rintro e w8 ⟨a9, n9, c9, rfl, hr9, hn9', hb8⟩
  replace g0 := bcell hb8 g0
  replace g1 := bcell hb8 g1
  replace g2 := bcell hb8 g2
  replace s0 := bcell hb8 s0
  replace s1 := bcell hb8 s1
  replace s2 := bcell hb8 s2
  replace u0 := bcell hb8 u0
  replace u1 := bcell hb8 u1
  replace u2 := bcell hb8 u2
  obtain ⟨W9, hW9⟩ : ∃ W, W = w8.alloc (.cells #[.int .i64 k1, .string t1, .slice a9 n9 c9] 24) := ⟨_, rfl⟩
  have hb9 : Below w8.heap.size w8 W9 := by rw [hW9]; exact (Below.refl _ _).alloc (Nat.le_refl _) _
  have v0 : W9.cell? ⟨w8.heap.size, 0, none⟩ = some (.int .i64 k1) := by rw [hW9, World.cell?_alloc_new]; rfl
  have v1 : W9.cell? ⟨w8.heap.size, 1, none⟩ = some (.string t1) := by rw [hW9, World.cell?_alloc_new]; rfl
  have v2 : W9.cell? ⟨w8.heap.size, 2, none⟩ = some (.slice a9 n9 c9) := by rw [hW9, World.cell?_alloc_new]; rfl
  have hblv : Blk W9 w8.heap.size := by rw [hW9]; exact Blk.new _ _ _
  have hb89 := hb8.trans (hb9.mono hb8.size)
  have hb19 := hb17.trans (hb89.mono hb17.size)
  have hr7 := hr7.out.below hb89
  have hr8 := hr8.out.below hb89
  have hr9 := hr9.below hb9
  replace g0 := bcell hb9 g0
  replace g1 := bcell hb9 g1
  replace g2 := bcell hb9 g2
  replace s0 := bcell hb9 s0
  replace s1 := bcell hb9 s1
  replace s2 := bcell hb9 s2
  replace u0 := bcell hb9 u0
  replace u1 := bcell hb9 u1
  replace u2 := bcell hb9 u2
  go_upto_region 8 with fail
  rw [← hW9]
  replace hW9 := Lib.hid hW9
  replace hr7 := Lib.hid hr7
  replace hr8 := Lib.hid hr8
  replace hr9 := Lib.hid hr9
  clear hblv hb8 hb9 hb89
  go_wp2_with fail
  refine (qp_q (rsame9_any k1 t1 a8 n8 c8 fs1 k1 t1 a9 n9 c9 fs1 _ hr8.out hr9.out (by omega)) (same_self k1 t1 fs1)).mono ?_
  rintro e w10 ⟨rfl, hb10⟩
  replace g0 := bcell hb10 g0
  replace g1 := bcell hb10 g1
  replace g2 := bcell hb10 g2
  replace s0 := bcell hb10 s0
  replace s1 := bcell hb10 s1
  replace s2 := bcell hb10 s2
  have hb110 := hb19.trans (hb10.mono hb19.size)
  have hr7 := hr7.out.below hb10
  replace hr7 := Lib.hid hr7
  clear u0 u1 u2 v0 v1 v2 hr8 hr9 hb10 hb19 hb17 hb15
  -- a field asked
  go_wp2_with fail
  refine (iget_all (hr1.out.below hb110) hF.out hge.out).mono ?_
  rintro e w11 ⟨rfl, hb11⟩
  replace g0 := bcell hb11 g0
  replace g1 := bcell hb11 g1
  replace g2 := bcell hb11 g2
  replace s0 := bcell hb11 s0
  replace s1 := bcell hb11 s1
  replace s2 := bcell hb11 s2
  have hb111 := hb110.trans (hb11.mono hb110.size)
  have hr7 := hr7.out.below hb11
  replace hr7 := Lib.hid hr7
  clear hb11 hb110
  go_wp2_with fail
  refine (rget_all (hr1.out.below hb111) hF.out hge.out).mono ?_
  rintro e w12 ⟨rfl, hb12⟩
  replace g0 := bcell hb12 g0
  replace g1 := bcell hb12 g1
  replace g2 := bcell hb12 g2
  replace s0 := bcell hb12 s0
  replace s1 := bcell hb12 s1
  replace s2 := bcell hb12 s2
  have hb112 := hb111.trans (hb12.mono hb111.size)
  have hr7 := hr7.out.below hb12
  replace hr7 := Lib.hid hr7
  clear hb12 hb111
  -- a field more
  go_wp2_with fail
  refine (iput_all (hr1.out.below hb112) hF.out hpu.out).mono ?_
  rintro e w13 ⟨a13, n13, c13, rfl, hr13, hn13, hb13⟩
  replace g0 := bcell hb13 g0
  replace g1 := bcell hb13 g1
  replace g2 := bcell hb13 g2
  replace s0 := bcell hb13 s0
  replace s1 := bcell hb13 s1
  replace s2 := bcell hb13 s2
  have hps : w4.heap.size < w13.heap.size := World.block_lt_of_cell? _ _ s0
  obtain ⟨W14, hW14⟩ : ∃ W, W = w13.alloc (.cells #[.int .i64 k2, .string t2, .slice a13 n13 c13] 24) := ⟨_, rfl⟩
  have hb14 : Below w13.heap.size w13 W14 := by rw [hW14]; exact (Below.refl _ _).alloc (Nat.le_refl _) _
  have x0 : W14.cell? ⟨w13.heap.size, 0, none⟩ = some (.int .i64 k2) := by rw [hW14, World.cell?_alloc_new]; rfl
  have x1 : W14.cell? ⟨w13.heap.size, 1, none⟩ = some (.string t2) := by rw [hW14, World.cell?_alloc_new]; rfl
  have x2 : W14.cell? ⟨w13.heap.size, 2, none⟩ = some (.slice a13 n13 c13) := by rw [hW14, World.cell?_alloc_new]; rfl
  have hblx : Blk W14 w13.heap.size := by rw [hW14]; exact Blk.new _ _ _
  have hpx : w13.heap.size < W14.heap.size := hblx.lt
  have hb134 := hb13.trans (hb14.mono hb13.size)
  have hb113 := hb112.trans (hb13.mono hb112.size)
  have hb114 := hb112.trans (hb134.mono hb112.size)
  have hr7 := hr7.out.below hb134
  have hr13 := hr13.below hb14
  replace g0 := bcell hb14 g0
  replace g1 := bcell hb14 g1
  replace g2 := bcell hb14 g2
  replace s0 := bcell hb14 s0
  replace s1 := bcell hb14 s1
  replace s2 := bcell hb14 s2
  go_upto_region 15 with fail
  rw [← hW14]
  replace hW14 := Lib.hid hW14
  replace hr7 := Lib.hid hr7
  replace hr13 := Lib.hid hr13
  clear hb13 hb14 hb134 hb112
  go_wp2_with fail
  refine (rput_all (hr1.out.below hb114) hF.out hpu.out).mono ?_
  rintro e w15 ⟨a15, n15, c15, rfl, hr15, hn15, hb15⟩
  replace g0 := bcell hb15 g0
  replace g1 := bcell hb15 g1
  replace g2 := bcell hb15 g2
  replace s0 := bcell hb15 s0
  replace s1 := bcell hb15 s1
  replace s2 := bcell hb15 s2
  replace x0 := bcell hb15 x0
  replace x1 := bcell hb15 x1
  replace x2 := bcell hb15 x2
  obtain ⟨W16, hW16⟩ : ∃ W, W = w15.alloc (.cells #[.int .i64 k2, .string t2, .slice a15 n15 c15] 24) := ⟨_, rfl⟩
  have hb16 : Below w15.heap.size w15 W16 := by rw [hW16]; exact (Below.refl _ _).alloc (Nat.le_refl _) _
  have z0 : W16.cell? ⟨w15.heap.size, 0, none⟩ = some (.int .i64 k2) := by rw [hW16, World.cell?_alloc_new]; rfl
  have z1 : W16.cell? ⟨w15.heap.size, 1, none⟩ = some (.string t2) := by rw [hW16, World.cell?_alloc_new]; rfl
  have z2 : W16.cell? ⟨w15.heap.size, 2, none⟩ = some (.slice a15 n15 c15) := by rw [hW16, World.cell?_alloc_new]; rfl
  have hblz : Blk W16 w15.heap.size := by rw [hW16]; exact Blk.new _ _ _
  have hb156 := hb15.trans (hb16.mono hb15.size)
  have hb116 := hb114.trans (hb156.mono hb114.size)
  have hr7 := hr7.out.below hb156
  have hr13 := hr13.out.below hb156
  have hr15 := hr15.below hb16
  replace hblx := hblx.of_block (hb156.block _ hblx.lt)
  replace g0 := bcell hb16 g0
  replace g1 := bcell hb16 g1
  replace g2 := bcell hb16 g2
  replace s0 := bcell hb16 s0
  replace s1 := bcell hb16 s1
  replace s2 := bcell hb16 s2
  replace x0 := bcell hb16 x0
  replace x1 := bcell hb16 x1
  replace x2 := bcell hb16 x2
  go_upto_region 16 with fail
  rw [← hW16]
  replace hW16 := Lib.hid hW16
  replace hr7 := Lib.hid hr7
  replace hr13 := Lib.hid hr13
  replace hr15 := Lib.hid hr15
  have hpp : w13.heap.size < w15.heap.size := by have := hb15.size; omega
  have hp1 : W1.heap.size ≤ w13.heap.size := hb113.size
  clear hb15 hb16 hb156 hb114 hb113
  go_wp2_with fail
  refine (qp_q (rsame9_any k2 t2 a13 n13 c13 fs2 k2 t2 a15 n15 c15 fs2 _ hr13.out hr15.out (by omega)) (same_self k2 t2 fs2)).mono ?_
  rintro e w17 ⟨rfl, hb17⟩
  replace g0 := bcell hb17 g0
  replace g1 := bcell hb17 g1
  replace g2 := bcell hb17 g2
  replace s0 := bcell hb17 s0
  replace s1 := bcell hb17 s1
  replace s2 := bcell hb17 s2
  replace x0 := bcell hb17 x0
  replace x1 := bcell hb17 x1
  replace x2 := bcell hb17 x2
  replace z0 := bcell hb17 z0
  replace z1 := bcell hb17 z1
  replace z2 := bcell hb17 z2
  have hb117 := hb116.trans (hb17.mono hb116.size)
  have hr7 := hr7.out.below hb17
  replace hr7 := Lib.hid hr7
  replace hblx := hblx.of_block (hb17.block _ hblx.lt)
  replace hblz := hblz.of_block (hb17.block _ hblz.lt)
  clear hr13 hr15 hb17 hb116
  -- a field less
  go_wp2_with fail
  refine (idrop_all (hr1.out.below hb117) hF.out hdr.out).mono ?_
  rintro e w18 ⟨a18, n18, c18, rfl, hr18, hn18, hb18, haw18⟩
  have hx17 : w13.heap.size < w17.heap.size := World.block_lt_of_cell? _ _ x0
  have hz17 : w15.heap.size < w17.heap.size := World.block_lt_of_cell? _ _ z0
  replace g0 := bcell hb18 g0
  replace g1 := bcell hb18 g1
  replace g2 := bcell hb18 g2
  replace s0 := bcell hb18 s0
  replace s1 := bcell hb18 s1
  replace s2 := bcell hb18 s2
  replace x0 := bcell hb18 x0
  replace x1 := bcell hb18 x1
  replace x2 := bcell hb18 x2
  replace z0 := bcell hb18 z0
  replace z1 := bcell hb18 z1
  replace z2 := bcell hb18 z2
  have hb118 := hb117.trans (hb18.mono hb117.size)
  have hr7 := hr7.out.below hb18
  replace hblx := hblx.of_block (hb18.block _ hblx.lt)
  replace hblz := hblz.of_block (hb18.block _ hblz.lt)
  have h30 : n = 0 → fs3 = [] := fun e => by
    have h1 : fs = [] := List.length_eq_zero_iff.1 (by rw [hl.out]; exact e)
    have h2 := hdr.out
    unfold dropS at h2
    rw [h1] at h2
    have : dropF ([] : List Fld) name = [] := rfl
    rw [this] at h2
    split at h2
    · simp only [Prod.mk.injEq] at h2; exact h2.2.2.1.symm
    · simp only [List.length_nil, if_true, Prod.mk.injEq] at h2; exact h2.2.2.1.symm
  have hlowA : ∀ (W : World) (a' : Option Addr) (n' : Nat), fs3.length = n' → Away W a a' n' → ∀ ad, a' = some ad → 0 < n' → W.heap.size ≤ ad.block ∨ ad.block < W1.heap.size := fun W a' n' hn' haw ad he h => by
    rcases haw ad he h with h1 | h1
    · exact Or.inl h1
    · right
      refine hpa.out ad (by rw [← h1]; exact he) ?_
      rcases Nat.eq_zero_or_pos n with e | e
      · have := h30 e; rw [this] at hn'; simp at hn'; omega
      · exact e
  have hlow18 := hlowA w17 a18 n18 hr18.len haw18
  replace hlowA := Lib.hid hlowA
  clear h30 haw18
  replace hlow18 := Lib.hid hlow18
  have hbx := box3 x0 x1 x2 hblx (.int .i64 k3) (.string t3) (.slice a18 n18 c18)
  have hz0 := hblx.frz 0 none
  have hz1 := hblx.frz 1 none
  have hz2 := hblx.frz 2 none
  obtain ⟨W19, hW19⟩ : ∃ W19, W19 = ((w18.setCell ⟨w13.heap.size, 0, none⟩ (.int .i64 k3)).setCell ⟨w13.heap.size, 1, none⟩ (.string t3)).setCell ⟨w13.heap.size, 2, none⟩ (.slice a18 n18 c18) := ⟨_, rfl⟩
  rw [← hW19] at hbx
  replace hbx := Lib.hid hbx
  go_upto_region 19 with fail
  rw [← hW19]
  obtain ⟨x0', x1', x2', hblx', hfx⟩ := hbx.out
  replace hW19 := Lib.hid hW19
  have hgp : w.heap.size < W1.heap.size := by have := hg8.out; omega
  replace g0 := hfx.cell g0 (show ¬ (w.heap.size = w13.heap.size) by omega)
  replace g1 := hfx.cell g1 (show ¬ (w.heap.size = w13.heap.size) by omega)
  replace g2 := hfx.cell g2 (show ¬ (w.heap.size = w13.heap.size) by omega)
  replace s0 := hfx.cell s0 (show ¬ (w4.heap.size = w13.heap.size) by omega)
  replace s1 := hfx.cell s1 (show ¬ (w4.heap.size = w13.heap.size) by omega)
  replace s2 := hfx.cell s2 (show ¬ (w4.heap.size = w13.heap.size) by omega)
  replace z0 := hfx.cell z0 (show ¬ (w15.heap.size = w13.heap.size) by omega)
  replace z1 := hfx.cell z1 (show ¬ (w15.heap.size = w13.heap.size) by omega)
  replace z2 := hfx.cell z2 (show ¬ (w15.heap.size = w13.heap.size) by omega)
  replace hblz := hblz.fr hfx (show ¬ (w15.heap.size = w13.heap.size) by omega)
  have hr7 := hr7.apart hfx (fun ad he h => by have := hp7.out ad he h; omega)
  have hr18 := hr18.apart hfx (fun ad he h => by have := hlow18.out ad he h; omega)
  have hb119 : Below W1.heap.size W1 W19 := hb118.trans (hfx.below hb118.size (fun i hi h => by omega))
  have hs19 : w17.heap.size ≤ W19.heap.size := Nat.le_trans hb18.size hfx.size
  clear x0 x1 x2 hblx hz0 hz1 hz2 hfx hbx hb117 hb118 hb18
  go_wp2_with fail
  refine (rdrop_all (hr1.out.below hb119) hF.out hdr.out).mono ?_
  rintro e w20 ⟨a20, n20, c20, rfl, hr20, hn20, hb20, haw20⟩
  have hlow20 := hlowA.out W19 a20 n20 hr20.len haw20
  replace hlow20 := Lib.hid hlow20
  replace x0' := bcell hb20 x0'
  replace x1' := bcell hb20 x1'
  replace x2' := bcell hb20 x2'
  replace g0 := bcell hb20 g0
  replace g1 := bcell hb20 g1
  replace g2 := bcell hb20 g2
  replace s0 := bcell hb20 s0
  replace s1 := bcell hb20 s1
  replace s2 := bcell hb20 s2
  replace z0 := bcell hb20 z0
  replace z1 := bcell hb20 z1
  replace z2 := bcell hb20 z2
  have hb120 := hb119.trans (hb20.mono hb119.size)
  have hr7 := hr7.below hb20
  have hr18 := hr18.below hb20
  replace hblz := hblz.of_block (hb20.block _ hblz.lt)
  clear haw20
  have hbz := box3 z0 z1 z2 hblz (.int .i64 k3) (.string t3) (.slice a20 n20 c20)
  have hz0 := hblz.frz 0 none
  have hz1 := hblz.frz 1 none
  have hz2 := hblz.frz 2 none
  obtain ⟨W21, hW21⟩ : ∃ W21, W21 = ((w20.setCell ⟨w15.heap.size, 0, none⟩ (.int .i64 k3)).setCell ⟨w15.heap.size, 1, none⟩ (.string t3)).setCell ⟨w15.heap.size, 2, none⟩ (.slice a20 n20 c20) := ⟨_, rfl⟩
  rw [← hW21] at hbz
  replace hbz := Lib.hid hbz
  go_upto_region 20 with fail
  rw [← hW21]
  obtain ⟨z0', z1', z2', hblz', hfz⟩ := hbz.out
  replace hW21 := Lib.hid hW21
  replace g0 := hfz.cell g0 (show ¬ (w.heap.size = w15.heap.size) by omega)
  replace g1 := hfz.cell g1 (show ¬ (w.heap.size = w15.heap.size) by omega)
  replace g2 := hfz.cell g2 (show ¬ (w.heap.size = w15.heap.size) by omega)
  replace s0 := hfz.cell s0 (show ¬ (w4.heap.size = w15.heap.size) by omega)
  replace s1 := hfz.cell s1 (show ¬ (w4.heap.size = w15.heap.size) by omega)
  replace s2 := hfz.cell s2 (show ¬ (w4.heap.size = w15.heap.size) by omega)
  replace x0' := hfz.cell x0' (show ¬ (w13.heap.size = w15.heap.size) by omega)
  replace x1' := hfz.cell x1' (show ¬ (w13.heap.size = w15.heap.size) by omega)
  replace x2' := hfz.cell x2' (show ¬ (w13.heap.size = w15.heap.size) by omega)
  have hr7 := hr7.apart hfz (fun ad he h => by have := hp7.out ad he h; omega)
  have hr18 := hr18.apart hfz (fun ad he h => by have := hlow18.out ad he h; omega)
  have hr20 := hr20.apart hfz (fun ad he h => by have := hlow20.out ad he h; omega)
  have hb121 : Below W1.heap.size W1 W21 := hb120.trans (hfz.below hb120.size (fun i hi h => by omega))
  clear z0 z1 z2 hblz hz0 hz1 hz2 hfz hbz hb119 hb120 hb20
  replace hr7 := Lib.hid hr7
  replace hr18 := Lib.hid hr18
  replace hr20 := Lib.hid hr20
  go_wp2_with fail
  refine (qp_q (rsame9_any k3 t3 a18 n18 c18 fs3 k3 t3 a20 n20 c20 fs3 _ hr18.out hr20.out (by omega)) (same_self k3 t3 fs3)).mono ?_
  rintro e w22 ⟨rfl, hb22⟩
  replace g0 := bcell hb22 g0
  replace g1 := bcell hb22 g1
  replace g2 := bcell hb22 g2
  replace s0 := bcell hb22 s0
  replace s1 := bcell hb22 s1
  replace s2 := bcell hb22 s2
  have hb122 := hb121.trans (hb22.mono hb121.size)
  have hr7 := hr7.out.below hb22
  replace hr7 := Lib.hid hr7
  go_wp2_with fail
  refine (qp_q (rsame9_any k t a n cap fs k t a7 n c7 fs _ (hr1.out.below hb122) hr7.out hn9) (same_self k t fs)).mono ?_
  rintro e w23 ⟨rfl, hb23⟩
  have hb123 := hb122.trans (hb23.mono hb122.size)
  have hfin := hb0.trans (hb123.mono hb0.size)
  clear g0 g1 g2 s0 s1 s2 x0' x1' x2' z0' z1' z2' hb23 hb22
  go_wp2
  go_ret
  exact ⟨by first | rfl | simp, hfin⟩
end Go.Proofs.YteoalcmhdoopnaaDoor
