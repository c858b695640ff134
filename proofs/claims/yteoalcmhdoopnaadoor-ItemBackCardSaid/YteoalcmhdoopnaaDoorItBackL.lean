/- ItemBack: its walk. -/
import Derived.Lib.ItoaLen
import Derived.Test.YteoalcmhdoopnaaDoorItAll
import Derived.Test.YteoalcmhdoopnaaDoorItChkL
import Derived.Test.YteoalcmhdoopnaaDoorItTxtL
import Derived.Test.YteoalcmhdoopnaaDoorItCostL
import Derived.Test.YteoalcmhdoopnaaDoorItAddX
import Derived.Test.YteoalcmhdoopnaaDoorItFldP
namespace Go.Proofs.YteoalcmhdoopnaaDoor
open Go.RowKit

theorem fine_modest {f : Fld} (h : fineF f) : modestF f := by unfold modestF; unfold fineF at h; omega
theorem sumT_size {S : Int} (h : fits64 S) : (sumT S).size ≤ 4096 := by
  have := Lib.itoa_length_le S h.1 h.2
  show (Lib.itoa S).toArray.size ≤ 4096
  simp only [List.size_toArray]; omega
theorem was_sum {S : Int} (h : fits64 S) : wasZ 1 (sumT S) = some S := by
  unfold wasZ; rw [if_pos rfl]; exact wP_iff.2 ⟨h, by simp [sumT]⟩
theorem sum_was {t : ByteArray} {was : Int} (h : wP t.data.toList = some was) : sumT was = t := itoa_eq (wP_iff.1 h).2
set_option maxRecDepth 100000 in
set_option maxHeartbeats 12800000 in
theorem backL_any (k : Int) (t : ByteArray) (a : Option Addr) (n cap : Nat) (fs : List Fld) (v : Int) (hv : fits64 v) (name : ByteArray) (w : World) (hr : RF w a n cap fs) (hN : Nums w) :
    Calls Tryd.prog 7 #[.agg #[.int .i64 k, .string t, .slice a n cap], .int .i64 v, .string name] w fun e w' => e = .returned (.bool true) ∧ Below w.heap.size w w' := by
  obtain ⟨W1, hW1⟩ : ∃ W, W = w.alloc (.cells #[.int .i64 k, .string t, .slice a n cap] 24) := ⟨_, rfl⟩
  have hb0 : Below w.heap.size w W1 := by rw [hW1]; exact (Below.refl _ _).alloc (Nat.le_refl _) _
  have g0 : W1.cell? ⟨w.heap.size, 0, none⟩ = some (.int .i64 k) := by rw [hW1, World.cell?_alloc_new]; rfl
  have g1 : W1.cell? ⟨w.heap.size, 1, none⟩ = some (.string t) := by rw [hW1, World.cell?_alloc_new]; rfl
  have g2 : W1.cell? ⟨w.heap.size, 2, none⟩ = some (.slice a n cap) := by rw [hW1, World.cell?_alloc_new]; rfl
  have hblg : Blk W1 w.heap.size := by rw [hW1]; exact Blk.new _ _ _
  have hr1 := hr.below hb0
  have hN1 := hN.below hb0
  have hl := hr.len
  replace hl := Lib.hid hl
  replace hW1 := Lib.hid hW1
  replace hr1 := Lib.hid hr1
  replace hN1 := Lib.hid hN1
  replace hv := Lib.hid hv
  clear hr hN hblg
  go_enter Tryd.func7, Tryd.ntmps7
  go_upto_region 1 with fail
  rw [← hW1.out]
  go_wp2_with fail
  refine (alive09_any W1 hN1.out).mono ?_
  rintro e w1 ⟨rfl, hb1⟩
  replace g0 := bcell hb1 g0
  replace g1 := bcell hb1 g1
  replace g2 := bcell hb1 g2
  go_wp2_with fail
  refine (great_any k t a n cap fs _ (hr1.out.below hb1)).mono ?_
  rintro e w2 ⟨g, rfl, hg, hb2⟩
  have hb12 := hb1.trans (hb2.mono hb1.size)
  have hbw2 := hb0.trans (hb12.mono hb0.size)
  replace g0 := bcell hb2 g0
  replace g1 := bcell hb2 g1
  replace g2 := bcell hb2 g2
  replace hg := Lib.hid hg
  cases g with
  | true =>
    go_wp2
    go_ret
    exact ⟨rfl, hbw2⟩
  | false =>
  obtain ⟨hn3, ht3, hm3⟩ := hg.out rfl
  clear hg
  have hn9 : n ≤ 100000000 := by omega
  have hn5 : n ≤ 100000 := by omega
  obtain ⟨qf, hqf⟩ := bool_of (FitsP k t fs)
  replace hqf := Lib.hid hqf
  replace hm3 := Lib.hid hm3
  go_wp2_with fail
  refine (qp_q (fits_any k t a n cap fs _ (hr1.out.below hb12) hn9) hqf.out).mono ?_
  rintro e w3 ⟨rfl, hb3⟩
  have hb13 := hb12.trans (hb3.mono hb12.size)
  have hbw3 := hb0.trans (hb13.mono hb0.size)
  replace g0 := bcell hb3 g0
  replace g1 := bcell hb3 g1
  replace g2 := bcell hb3 g2
  cases qf with
  | false =>
    go_wp2
    go_ret
    exact ⟨rfl, hbw3⟩
  | true =>
  have hF := fitI_of hl.out (hqf.out.1 (by trivial))
  have hfall : k ≠ 1 → ∀ f ∈ fs, fineF f := fun hk f hf => by
    rcases hqf.out.1 (by trivial) with (⟨h1, _⟩ | ⟨_, _, _, _, h3, _⟩) | ⟨_, _, h3⟩
    · exact absurd h1 hk
    · exact h3 f hf
    · rw [h3] at hf; cases hf
  replace hfall := Lib.hid hfall
  clear hqf
  by_cases hname : 512 < name.size
  · have hname' : (512 : Int) < name.size := by omega
    go_wp2
    go_ret
    exact ⟨rfl, hbw3⟩
  have hname' : ¬ (512 : Int) < name.size := by omega
  have hFn := hF.n
  have hzero := hF.zero
  replace hF := Lib.hid hF
  clear hb12 hbw2 hbw3 hb1 hb2 hb3
  have hN3 := hN1.out.below hb13
  replace hN3 := Lib.hid hN3
  by_cases hk1 : k = 1
  · subst hk1
    cases hw : wP t.data.toList with
    | none =>
      go_wp2_with fail
      refine (iadd_none t a n cap v _ hw (by omega) hN3.out).mono ?_
      rintro e w4 ⟨k1, t1, a1, n1, c1, er, rfl, her, hb4⟩
      have her' : (er == 0) = false := by simpa using her
      replace g0 := bcell hb4 g0
      replace g1 := bcell hb4 g1
      replace g2 := bcell hb4 g2
      have hb14 := hb13.trans (hb4.mono hb13.size)
      obtain ⟨W5, hW5⟩ : ∃ W, W = w4.alloc (.cells #[.int .i64 k1, .string t1, .slice a1 n1 c1] 24) := ⟨_, rfl⟩
      have hb5 : Below w4.heap.size w4 W5 := by rw [hW5]; exact (Below.refl _ _).alloc (Nat.le_refl _) _
      have x0 : W5.cell? ⟨w4.heap.size, 0, none⟩ = some (.int .i64 k1) := by rw [hW5, World.cell?_alloc_new]; rfl
      have x1 : W5.cell? ⟨w4.heap.size, 1, none⟩ = some (.string t1) := by rw [hW5, World.cell?_alloc_new]; rfl
      have x2 : W5.cell? ⟨w4.heap.size, 2, none⟩ = some (.slice a1 n1 c1) := by rw [hW5, World.cell?_alloc_new]; rfl
      have hblx : Blk W5 w4.heap.size := by rw [hW5]; exact Blk.new _ _ _
      have hb15 := hb14.trans (hb5.mono hb14.size)
      replace g0 := bcell hb5 g0
      replace g1 := bcell hb5 g1
      replace g2 := bcell hb5 g2
      go_upto_region 6 with fail
      rw [← hW5]
      replace hW5 := Lib.hid hW5
      go_wp2_with fail
      refine (iget_text t a n cap name _).mono ?_
      rintro e wz ⟨rfl, hbz⟩
      have hfin := hb0.trans ((hb15.trans (hbz.mono hb15.size)).mono hb0.size)
      clear g0 g1 g2
      go_wp2
      go_ret
      exact ⟨rfl, hfin⟩
    | some was =>
      have hwf := (wP_iff.1 hw).1
      by_cases hs : fits64 (was + v)
      · go_wp2_with fail
        refine (iadd_in 1 t a n cap v was _ (by decide) (by unfold wasZ; rw [if_pos rfl]; exact hw) hv.out hs (by omega) hN3.out).mono ?_
        rintro e w4 ⟨rfl, hb4⟩
        replace g0 := bcell hb4 g0
        replace g1 := bcell hb4 g1
        replace g2 := bcell hb4 g2
        have hb14 := hb13.trans (hb4.mono hb13.size)
        have hfs : fs = [] := hF.out.flds (by decide)
        obtain ⟨S, hS⟩ : ∃ S, S = was + v := ⟨_, rfl⟩
        rw [← hS] at hs ⊢
        obtain ⟨T, hT⟩ : ∃ T, T = sumT S := ⟨_, rfl⟩
        rw [← hT]
        have hTs : T.size ≤ 4096 := by rw [hT]; exact sumT_size hs
        have hTw : wasZ 1 T = some S := by rw [hT]; exact was_sum hs
        replace hs := Lib.hid hs
        replace hS := Lib.hid hS
        replace hT := Lib.hid hT
        replace hTw := Lib.hid hTw
        replace hw := Lib.hid hw
        replace hfs := Lib.hid hfs
        obtain ⟨W5, hW5⟩ : ∃ W, W = w4.alloc (.cells #[.int .i64 1, .string T, .slice none 0 0] 24) := ⟨_, rfl⟩
        have hb5 : Below w4.heap.size w4 W5 := by rw [hW5]; exact (Below.refl _ _).alloc (Nat.le_refl _) _
        have x0 : W5.cell? ⟨w4.heap.size, 0, none⟩ = some (.int .i64 1) := by rw [hW5, World.cell?_alloc_new]; rfl
        have x1 : W5.cell? ⟨w4.heap.size, 1, none⟩ = some (.string T) := by rw [hW5, World.cell?_alloc_new]; rfl
        have x2 : W5.cell? ⟨w4.heap.size, 2, none⟩ = some (.slice none 0 0) := by rw [hW5, World.cell?_alloc_new]; rfl
        have hblx : Blk W5 w4.heap.size := by rw [hW5]; exact Blk.new _ _ _
        have hb15 := hb14.trans (hb5.mono hb14.size)
        replace g0 := bcell hb5 g0
        replace g1 := bcell hb5 g1
        replace g2 := bcell hb5 g2
        go_upto_region 6 with fail
        rw [← hW5]
        replace hW5 := Lib.hid hW5
        go_wp2_with fail
        refine (qp_q (right_any 1 T none 0 0 [] _ (Reads.nil _ _ _ _) (by decide)) (show true = true ↔ RightP 1 T [] from ⟨fun _ => Or.inl ⟨rfl, hTs, rfl⟩, fun _ => rfl⟩)).mono ?_
        rintro e w6 ⟨rfl, hb6⟩
        replace g0 := bcell hb6 g0
        replace g1 := bcell hb6 g1
        replace g2 := bcell hb6 g2
        replace x0 := bcell hb6 x0
        replace x1 := bcell hb6 x1
        replace x2 := bcell hb6 x2
        have hb16 := hb15.trans (hb6.mono hb15.size)
        by_cases hmin : -9223372036854775808 < v
        · have hneg : IntKind.i64.wrap (-v) = -v := IntWalk.i64_in _ (by have := hv.out.2; omega)
          have hN6 := hN1.out.below hb16
          replace hN6 := Lib.hid hN6
          go_wp2_with fail
          refine (iadd_in 1 T none 0 0 (-v) S _ (by decide) hTw.out (by have := hv.out; exact ⟨by have := this.2; omega, by omega⟩) (by rw [hS.out]; have := (wP_iff.1 hw.out).1; exact ⟨by omega, by omega⟩) (by omega) hN6.out).mono ?_
          rintro e w7 ⟨rfl, hb7⟩
          have hsub : sumT (S + -v) = t := by rw [hS.out, show was + v + -v = was by omega]; exact sum_was hw.out
          rw [hsub]
          replace g0 := bcell hb7 g0
          replace g1 := bcell hb7 g1
          replace g2 := bcell hb7 g2
          have hb17 := hb16.trans (hb7.mono hb16.size)
          obtain ⟨W8, hW8⟩ : ∃ W, W = w7.alloc (.cells #[.int .i64 1, .string t, .slice none 0 0] 24) := ⟨_, rfl⟩
          have hb8 : Below w7.heap.size w7 W8 := by rw [hW8]; exact (Below.refl _ _).alloc (Nat.le_refl _) _
          have y0 : W8.cell? ⟨w7.heap.size, 0, none⟩ = some (.int .i64 1) := by rw [hW8, World.cell?_alloc_new]; rfl
          have y1 : W8.cell? ⟨w7.heap.size, 1, none⟩ = some (.string t) := by rw [hW8, World.cell?_alloc_new]; rfl
          have y2 : W8.cell? ⟨w7.heap.size, 2, none⟩ = some (.slice none 0 0) := by rw [hW8, World.cell?_alloc_new]; rfl
          have hbly : Blk W8 w7.heap.size := by rw [hW8]; exact Blk.new _ _ _
          have hb18 := hb17.trans (hb8.mono hb17.size)
          replace g0 := bcell hb8 g0
          replace g1 := bcell hb8 g1
          replace g2 := bcell hb8 g2
          go_upto_region 11 with fail
          rw [← hW8]
          replace hW8 := Lib.hid hW8
          have hrf := hr1.out.below hb18
          rw [hfs.out] at hrf
          go_wp2_with fail
          refine (qp_q (isame_any 1 t none 0 0 [] 1 t a n cap [] _ (Reads.nil _ _ _ _) hrf (by omega)) (same_self _ _ _)).mono ?_
          rintro e w9 ⟨rfl, hb9⟩
          replace g0 := bcell hb9 g0
          replace g1 := bcell hb9 g1
          replace g2 := bcell hb9 g2
          have hb19 := hb18.trans (hb9.mono hb18.size)
          go_wp2_with fail
          refine (iget_text t a n cap name _).mono ?_
          rintro e wz ⟨rfl, hbz⟩
          have hfin := hb0.trans ((hb19.trans (hbz.mono hb19.size)).mono hb0.size)
          clear g0 g1 g2
          go_wp2
          go_ret
          exact ⟨rfl, hfin⟩
        · go_wp2_with fail
          refine (iget_text t a n cap name _).mono ?_
          rintro e wz ⟨rfl, hbz⟩
          have hfin := hb0.trans ((hb16.trans (hbz.mono hb16.size)).mono hb0.size)
          clear g0 g1 g2
          go_wp2
          go_ret
          exact ⟨rfl, hfin⟩
      · go_wp2_with fail
        refine (iadd_over 1 t a n cap v was _ (by decide) (by unfold wasZ; rw [if_pos rfl]; exact hw) hv.out hs (by omega) hN3.out).mono ?_
        rintro e w4 ⟨k1, t1, a1, n1, c1, er, rfl, her, hb4⟩
        have her' : (er == 0) = false := by simpa using her
        replace g0 := bcell hb4 g0
        replace g1 := bcell hb4 g1
        replace g2 := bcell hb4 g2
        have hb14 := hb13.trans (hb4.mono hb13.size)
        obtain ⟨W5, hW5⟩ : ∃ W, W = w4.alloc (.cells #[.int .i64 k1, .string t1, .slice a1 n1 c1] 24) := ⟨_, rfl⟩
        have hb5 : Below w4.heap.size w4 W5 := by rw [hW5]; exact (Below.refl _ _).alloc (Nat.le_refl _) _
        have x0 : W5.cell? ⟨w4.heap.size, 0, none⟩ = some (.int .i64 k1) := by rw [hW5, World.cell?_alloc_new]; rfl
        have x1 : W5.cell? ⟨w4.heap.size, 1, none⟩ = some (.string t1) := by rw [hW5, World.cell?_alloc_new]; rfl
        have x2 : W5.cell? ⟨w4.heap.size, 2, none⟩ = some (.slice a1 n1 c1) := by rw [hW5, World.cell?_alloc_new]; rfl
        have hblx : Blk W5 w4.heap.size := by rw [hW5]; exact Blk.new _ _ _
        have hb15 := hb14.trans (hb5.mono hb14.size)
        replace g0 := bcell hb5 g0
        replace g1 := bcell hb5 g1
        replace g2 := bcell hb5 g2
        go_upto_region 6 with fail
        rw [← hW5]
        replace hW5 := Lib.hid hW5
        go_wp2_with fail
        refine (iget_text t a n cap name _).mono ?_
        rintro e wz ⟨rfl, hbz⟩
        have hfin := hb0.trans ((hb15.trans (hbz.mono hb15.size)).mono hb0.size)
        clear g0 g1 g2
        go_wp2
        go_ret
        exact ⟨rfl, hfin⟩
  · rcases hzero with h0 | h1 | h2
    · subst h0
      have hfs : fs = [] := hF.out.flds (by decide)
      go_wp2_with fail
      refine (iadd_in 0 t a n cap v 0 _ (by decide) (by unfold wasZ; rw [if_neg (by decide)]) hv.out (by rw [Int.zero_add]; exact hv.out) (by omega) hN3.out).mono ?_
      rintro e w4 ⟨rfl, hb4⟩
      rw [Int.zero_add]
      replace g0 := bcell hb4 g0
      replace g1 := bcell hb4 g1
      replace g2 := bcell hb4 g2
      have hb14 := hb13.trans (hb4.mono hb13.size)
      obtain ⟨T, hT⟩ : ∃ T, T = sumT v := ⟨_, rfl⟩
      rw [← hT]
      have hTs : T.size ≤ 4096 := by rw [hT]; exact sumT_size hv.out
      replace hT := Lib.hid hT
      replace hfs := Lib.hid hfs
      obtain ⟨W5, hW5⟩ : ∃ W, W = w4.alloc (.cells #[.int .i64 1, .string T, .slice none 0 0] 24) := ⟨_, rfl⟩
      have hb5 : Below w4.heap.size w4 W5 := by rw [hW5]; exact (Below.refl _ _).alloc (Nat.le_refl _) _
      have x0 : W5.cell? ⟨w4.heap.size, 0, none⟩ = some (.int .i64 1) := by rw [hW5, World.cell?_alloc_new]; rfl
      have x1 : W5.cell? ⟨w4.heap.size, 1, none⟩ = some (.string T) := by rw [hW5, World.cell?_alloc_new]; rfl
      have x2 : W5.cell? ⟨w4.heap.size, 2, none⟩ = some (.slice none 0 0) := by rw [hW5, World.cell?_alloc_new]; rfl
      have hblx : Blk W5 w4.heap.size := by rw [hW5]; exact Blk.new _ _ _
      have hb15 := hb14.trans (hb5.mono hb14.size)
      replace g0 := bcell hb5 g0
      replace g1 := bcell hb5 g1
      replace g2 := bcell hb5 g2
      go_upto_region 6 with fail
      rw [← hW5]
      replace hW5 := Lib.hid hW5
      go_wp2_with fail
      refine (qp_q (right_any 1 T none 0 0 [] _ (Reads.nil _ _ _ _) (by decide)) (show true = true ↔ RightP 1 T [] from ⟨fun _ => Or.inl ⟨rfl, hTs, rfl⟩, fun _ => rfl⟩)).mono ?_
      rintro e w6 ⟨rfl, hb6⟩
      replace g0 := bcell hb6 g0
      replace g1 := bcell hb6 g1
      replace g2 := bcell hb6 g2
      replace x0 := bcell hb6 x0
      replace x1 := bcell hb6 x1
      replace x2 := bcell hb6 x2
      have hb16 := hb15.trans (hb6.mono hb15.size)
      have hfine : Hid (∀ f ∈ fs, fineF f) := Lib.hid (by rw [hfs.out]; intro f hf; cases hf)
      have ht0 : Hid (t = ⟨#[]⟩) := Lib.hid (hF.out.empty (by decide))
      have hdrop : ∀ PF, dropF PF name = fs → hasF PF name = true → dropS 2 ⟨#[]⟩ PF name = (0, ⟨#[]⟩, fs, true, 0) := fun PF h1 h2 => by
        unfold dropS
        rw [if_neg (by decide), h1, h2, hfs.out]; rfl
      replace hdrop := Lib.hid hdrop
      by_cases hmin : -9223372036854775808 < v
      · cases hh : hasF fs name with
        | true =>
          go_wp2_with fail
          refine (iget_any 0 t a n cap fs name _ (by decide) (hr1.out.below hb16) hF.out.srt (by omega)).mono ?_
          rintro e wz ⟨rfl, hbz⟩
          rw [hh]
          have hfin := hb0.trans ((hb16.trans (hbz.mono hb16.size)).mono hb0.size)
          clear g0 g1 g2
          go_wp2
          go_ret
          exact ⟨rfl, hfin⟩
        | false =>
          go_wp2_with fail
          refine (iget_any 0 t a n cap fs name _ (by decide) (hr1.out.below hb16) hF.out.srt (by omega)).mono ?_
          rintro e wz ⟨rfl, hbz⟩
          rw [hh]
          replace g0 := bcell hbz g0
          replace g1 := bcell hbz g1
          replace g2 := bcell hbz g2
          have hbz1 := hb16.trans (hbz.mono hb16.size)
          by_cases h256 : 256 ≤ n
          · have hn256 : (n : Int) = 256 := by omega
            have hn256' : ((n : Int) == 256) = true := by rw [hn256]; rfl
            go_wp2_with fail
            refine (iput_big 0 t a n cap fs name ⟨#[118]⟩ _ (by decide) (hr1.out.below hbz1) hF.out.srt (by omega) (tooBig_iff.2 (Or.inr ⟨hh, by have := hl.out; omega⟩))).mono ?_
            rintro e wy ⟨ay, cy, rfl, hry, hby⟩
            replace g0 := bcell hby g0
            replace g1 := bcell hby g1
            replace g2 := bcell hby g2
            have hfin := hb0.trans ((hbz1.trans (hby.mono hbz1.size)).mono hb0.size)
            obtain ⟨W8, hW8⟩ : ∃ W, W = wy.alloc (.cells #[.int .i64 0, .string t, .slice ay n cy] 24) := ⟨_, rfl⟩
            have hb8 : Below wy.heap.size wy W8 := by rw [hW8]; exact (Below.refl _ _).alloc (Nat.le_refl _) _
            have y0 : W8.cell? ⟨wy.heap.size, 0, none⟩ = some (.int .i64 0) := by rw [hW8, World.cell?_alloc_new]; rfl
            have y1 : W8.cell? ⟨wy.heap.size, 1, none⟩ = some (.string t) := by rw [hW8, World.cell?_alloc_new]; rfl
            have y2 : W8.cell? ⟨wy.heap.size, 2, none⟩ = some (.slice ay n cy) := by rw [hW8, World.cell?_alloc_new]; rfl
            have hbly : Blk W8 wy.heap.size := by rw [hW8]; exact Blk.new _ _ _
            replace g0 := bcell hb8 g0
            replace g1 := bcell hb8 g1
            replace g2 := bcell hb8 g2
            have hfin8 := hfin.trans (hb8.mono hfin.size)
            go_upto_region 17 with fail
            rw [← hW8]
            replace hW8 := Lib.hid hW8
            go_wp2
            go_ret
            exact ⟨by first | rfl | simp [hn256], hfin8⟩
          · go_wp2_with fail
            refine (iput_in 0 t a n cap fs name ⟨#[118]⟩ _ (by decide) (hr1.out.below hbz1) hF.out.srt (by omega) ⟨by show name.size ≤ 512; omega, by show (⟨#[118]⟩ : ByteArray).size ≤ 4096; decide⟩ (Or.inr (by omega))).mono ?_
            rintro e wy ⟨ay, ny, cy, rfl, howny, hby⟩
            rw [hh]
            replace g0 := bcell hby g0
            replace g1 := bcell hby g1
            replace g2 := bcell hby g2
            have hby1 := hbz1.trans (hby.mono hbz1.size)
            obtain ⟨PF, hPF⟩ : ∃ PF, PF = putF fs name ⟨#[118]⟩ := ⟨_, rfl⟩
            rw [← hPF] at howny
            have hry := RF.of_owns howny
            have hsP : Srt PF := by rw [hPF]; exact srt_putF hF.out.srt _ _
            have hlP : PF.length = n + 1 := by rw [hPF, putF_len hF.out.srt, hh, hl.out]; rfl
            have hgP : getF PF name = some ⟨#[118]⟩ := by rw [hPF, getF_put hF.out.srt, if_pos rfl]
            have hhP : hasF PF name = true := by rw [← hasF_getF, hgP]; rfl
            have hdP : dropF PF name = fs := by rw [hPF]; exact drop_put hF.out.srt _ hh
            have hny : ny ≤ 256 := by have := hry.len; omega
            have hcP : costF PF = costF fs + (16 + name.size + 1) := by rw [hPF, put_new _ hh]; exact costF_ins fs _ (name, ⟨#[118]⟩)
            have hfP : ∀ f ∈ PF, fineF f := by rw [hPF]; exact fine_putF hF.out.srt hfine.out ⟨by show name.size ≤ 512; omega, by show (⟨#[118]⟩ : ByteArray).size ≤ 4096; decide⟩
            have hPne : PF ≠ [] := fun e => by rw [e] at hlP; simp at hlP
            replace hPF := Lib.hid hPF
            clear howny
            obtain ⟨W8, hW8⟩ : ∃ W, W = wy.alloc (.cells #[.int .i64 2, .string ⟨#[]⟩, .slice ay ny cy] 24) := ⟨_, rfl⟩
            have hb8 : Below wy.heap.size wy W8 := by rw [hW8]; exact (Below.refl _ _).alloc (Nat.le_refl _) _
            have y0 : W8.cell? ⟨wy.heap.size, 0, none⟩ = some (.int .i64 2) := by rw [hW8, World.cell?_alloc_new]; rfl
            have y1 : W8.cell? ⟨wy.heap.size, 1, none⟩ = some (.string ⟨#[]⟩) := by rw [hW8, World.cell?_alloc_new]; rfl
            have y2 : W8.cell? ⟨wy.heap.size, 2, none⟩ = some (.slice ay ny cy) := by rw [hW8, World.cell?_alloc_new]; rfl
            have hbly : Blk W8 wy.heap.size := by rw [hW8]; exact Blk.new _ _ _
            have hb18 := hby1.trans (hb8.mono hby1.size)
            have hry := hry.below hb8
            replace hry := Lib.hid hry
            replace g0 := bcell hb8 g0
            replace g1 := bcell hb8 g1
            replace g2 := bcell hb8 g2
            go_upto_region 17 with fail
            rw [← hW8]
            replace hW8 := Lib.hid hW8
            go_wp2_with fail
            refine (iget_any 2 ⟨#[]⟩ ay ny cy PF name _ (by decide) hry.out hsP (by omega)).mono ?_
            rintro e wx ⟨rfl, hbx9⟩
            rw [hgP, hhP]
            replace g0 := bcell hbx9 g0
            replace g1 := bcell hbx9 g1
            replace g2 := bcell hbx9 g2
            replace y0 := bcell hbx9 y0
            replace y1 := bcell hbx9 y1
            replace y2 := bcell hbx9 y2
            have hb19 := hb18.trans (hbx9.mono hb18.size)
            have hry := hry.out.below hbx9
            replace hry := Lib.hid hry
            have hFP : FitI 2 ⟨#[]⟩ ny PF := ⟨hsP, hny, by decide, fun _ => rfl, fun h => absurd h hPne, fun _ => hPne, Or.inr (Or.inr rfl), fun h => absurd rfl h⟩
            go_wp2_with fail
            refine (idrop_all hry.out hFP (hdrop.out PF hdP hhP)).mono ?_
            rintro e wu ⟨au, nu, cu, rfl, hru, hnu, hbu, hawu⟩
            replace g0 := bcell hbu g0
            replace g1 := bcell hbu g1
            replace g2 := bcell hbu g2
            replace y0 := bcell hbu y0
            replace y1 := bcell hbu y1
            replace y2 := bcell hbu y2
            have hb1u := hb19.trans (hbu.mono hb19.size)
            have hry := hry.out.below hbu
            clear hawu
            obtain ⟨W10, hW10⟩ : ∃ W, W = wu.alloc (.cells #[.int .i64 0, .string ⟨#[]⟩, .slice au nu cu] 24) := ⟨_, rfl⟩
            have hb10 : Below wu.heap.size wu W10 := by rw [hW10]; exact (Below.refl _ _).alloc (Nat.le_refl _) _
            have z0 : W10.cell? ⟨wu.heap.size, 0, none⟩ = some (.int .i64 0) := by rw [hW10, World.cell?_alloc_new]; rfl
            have z1 : W10.cell? ⟨wu.heap.size, 1, none⟩ = some (.string ⟨#[]⟩) := by rw [hW10, World.cell?_alloc_new]; rfl
            have z2 : W10.cell? ⟨wu.heap.size, 2, none⟩ = some (.slice au nu cu) := by rw [hW10, World.cell?_alloc_new]; rfl
            have hblz : Blk W10 wu.heap.size := by rw [hW10]; exact Blk.new _ _ _
            replace g0 := bcell hb10 g0
            replace g1 := bcell hb10 g1
            replace g2 := bcell hb10 g2
            replace y0 := bcell hb10 y0
            replace y1 := bcell hb10 y1
            replace y2 := bcell hb10 y2
            have hb110 := hb1u.trans (hb10.mono hb1u.size)
            have hry := hry.below hb10
            have hru := hru.below hb10
            have hrA := hr1.out.below hb110
            have hNA := hN1.out.below hb110
            have hmfs : ∀ f ∈ fs, modestF f := fun f hf => fine_modest (hfine.out f hf)
            have hmPF : ∀ f ∈ PF, modestF f := fun f hf => fine_modest (hfP f hf)
            obtain ⟨c, hc⟩ : ∃ c, c = costZ ⟨#[107]⟩ 0 t fs := ⟨_, rfl⟩
            have hcle : c ≤ 100000000000 := by rw [hc]; exact costZ_le _ _ _ _ (by decide) (by omega) (by have := hl.out; omega) hmfs
            have hd : costZ ⟨#[107]⟩ 2 ⟨#[]⟩ PF = c + 17 + name.size := by
              rw [hc]
              unfold costZ
              rw [if_neg (by decide), if_neg (by decide), hcP]
              omega
            have hA : ∀ W, Below W10.heap.size W10 W → Calls Tryd.prog 11 #[.agg #[.int .i64 2, .string ⟨#[]⟩, .slice ay ny cy]] W fun e w' => e = .returned (.bool true) ∧ Below W.heap.size W w' := fun W hb =>
              qp_q (right_any 2 ⟨#[]⟩ ay ny cy PF W (hry.below hb) (by omega)) ⟨fun _ => Or.inr ⟨rfl, rfl, List.length_pos_iff.2 hPne, by omega, hfP, hsP⟩, fun _ => rfl⟩
            have hB : ∀ W, Below W10.heap.size W10 W → Calls Tryd.prog 13 #[.agg #[.int .i64 0, .string ⟨#[]⟩, .slice au nu cu], .agg #[.int .i64 0, .string t, .slice a n cap]] W fun e w' => e = .returned (.bool true) ∧ Below W.heap.size W w' := fun W hb =>
              qp_q (isame_any 0 ⟨#[]⟩ au nu cu fs 0 t a n cap fs W (hru.below hb) (hrA.below hb) (by omega)) ⟨fun _ => ⟨rfl, ht0.out.symm, rfl⟩, fun _ => rfl⟩
            have hC : ∀ W, Below W10.heap.size W10 W → Calls Tryd.prog 15 #[.string ⟨#[107]⟩, .agg #[.int .i64 2, .string ⟨#[]⟩, .slice ay ny cy]] W fun e w' => e = .returned (.int .i64 ((c + 17 + name.size : Nat) : Int)) ∧ Below W.heap.size W w' := fun W hb => by
              rw [← hd]
              exact cost_any ⟨#[107]⟩ 2 ⟨#[]⟩ ay ny cy PF W (hry.below hb) (by omega) (by decide) (by decide) hmPF (hNA.below hb)
            have hD : ∀ W, Below W10.heap.size W10 W → Calls Tryd.prog 15 #[.string ⟨#[107]⟩, .agg #[.int .i64 0, .string t, .slice a n cap]] W fun e w' => e = .returned (.int .i64 (c : Int)) ∧ Below W.heap.size W w' := fun W hb => by
              rw [hc]
              exact cost_any ⟨#[107]⟩ 0 t a n cap fs W (hrA.below hb) (by omega) (by decide) (by omega) hmfs (hNA.below hb)
            have hw1 : IntKind.i64.wrap (((c + 17 + name.size : Nat) : Int) - (c : Int)) = 17 + (name.size : Int) := by rw [IntWalk.i64_in _ (by omega)]; omega
            have hw2 : IntKind.i64.wrap (17 + (name.size : Int)) = 17 + (name.size : Int) := IntWalk.i64_in _ (by omega)
            replace hA := Lib.hid hA
            replace hB := Lib.hid hB
            replace hC := Lib.hid hC
            replace hD := Lib.hid hD
            replace hc := Lib.hid hc
            replace hd := Lib.hid hd
            clear hry hru hrA hNA hmfs hmPF hgP hhP hdP hcP hfP hPne hsP hFP hlP
            have z1 : w.heap.size < W10.heap.size := World.block_lt_of_cell? _ _ g0
            have z2 : wy.heap.size < W10.heap.size := World.block_lt_of_cell? _ _ y0
            have z3 : wu.heap.size < W10.heap.size := World.block_lt_of_cell? _ _ z0
            have hbfin := hb0.trans (hb110.mono hb0.size)
            go_upto_region 21 with fail
            rw [← hW10]
            replace hW10 := Lib.hid hW10
            refine wp_region_grow (by kernel_rfl) (by kernel_rfl) ?_
            repeat (go_big_quiet_step ((first
              | (go_at_call 11; (with_reducible exact quiet_grow (hA.out _ (grow_below _ _))))
              | (go_at_call 13; (with_reducible exact quiet_grow (hB.out _ (grow_below _ _))))
              | (go_at_call 15; (with_reducible exact quiet_grow (hC.out _ (grow_below _ _))))
              | (go_at_call 15; (with_reducible exact quiet_grow (hD.out _ (grow_below _ _)))))))
            refine wpQuiet_nil ?_
            rintro _ ⟨xq, rfl⟩
            have hbq := hbfin.trans ((grow_below _ xq).mono hbfin.size)
            clear g0 g1 g2 y0 y1 y2 z0 z1 z2 hw1 hw2
            go_wp2
            go_ret
            exact ⟨by first | rfl | (simp; done) | (simp; omega), hbq⟩
      · cases hh : hasF fs name with
        | true =>
          go_wp2_with fail
          refine (iget_any 0 t a n cap fs name _ (by decide) (hr1.out.below hb16) hF.out.srt (by omega)).mono ?_
          rintro e wz ⟨rfl, hbz⟩
          rw [hh]
          have hfin := hb0.trans ((hb16.trans (hbz.mono hb16.size)).mono hb0.size)
          clear g0 g1 g2
          go_wp2
          go_ret
          exact ⟨rfl, hfin⟩
        | false =>
          go_wp2_with fail
          refine (iget_any 0 t a n cap fs name _ (by decide) (hr1.out.below hb16) hF.out.srt (by omega)).mono ?_
          rintro e wz ⟨rfl, hbz⟩
          rw [hh]
          replace g0 := bcell hbz g0
          replace g1 := bcell hbz g1
          replace g2 := bcell hbz g2
          have hbz1 := hb16.trans (hbz.mono hb16.size)
          by_cases h256 : 256 ≤ n
          · have hn256 : (n : Int) = 256 := by omega
            have hn256' : ((n : Int) == 256) = true := by rw [hn256]; rfl
            go_wp2_with fail
            refine (iput_big 0 t a n cap fs name ⟨#[118]⟩ _ (by decide) (hr1.out.below hbz1) hF.out.srt (by omega) (tooBig_iff.2 (Or.inr ⟨hh, by have := hl.out; omega⟩))).mono ?_
            rintro e wy ⟨ay, cy, rfl, hry, hby⟩
            replace g0 := bcell hby g0
            replace g1 := bcell hby g1
            replace g2 := bcell hby g2
            have hfin := hb0.trans ((hbz1.trans (hby.mono hbz1.size)).mono hb0.size)
            obtain ⟨W8, hW8⟩ : ∃ W, W = wy.alloc (.cells #[.int .i64 0, .string t, .slice ay n cy] 24) := ⟨_, rfl⟩
            have hb8 : Below wy.heap.size wy W8 := by rw [hW8]; exact (Below.refl _ _).alloc (Nat.le_refl _) _
            have y0 : W8.cell? ⟨wy.heap.size, 0, none⟩ = some (.int .i64 0) := by rw [hW8, World.cell?_alloc_new]; rfl
            have y1 : W8.cell? ⟨wy.heap.size, 1, none⟩ = some (.string t) := by rw [hW8, World.cell?_alloc_new]; rfl
            have y2 : W8.cell? ⟨wy.heap.size, 2, none⟩ = some (.slice ay n cy) := by rw [hW8, World.cell?_alloc_new]; rfl
            have hbly : Blk W8 wy.heap.size := by rw [hW8]; exact Blk.new _ _ _
            replace g0 := bcell hb8 g0
            replace g1 := bcell hb8 g1
            replace g2 := bcell hb8 g2
            have hfin8 := hfin.trans (hb8.mono hfin.size)
            go_upto_region 17 with fail
            rw [← hW8]
            replace hW8 := Lib.hid hW8
            go_wp2
            go_ret
            exact ⟨by first | rfl | simp [hn256], hfin8⟩
          · go_wp2_with fail
            refine (iput_in 0 t a n cap fs name ⟨#[118]⟩ _ (by decide) (hr1.out.below hbz1) hF.out.srt (by omega) ⟨by show name.size ≤ 512; omega, by show (⟨#[118]⟩ : ByteArray).size ≤ 4096; decide⟩ (Or.inr (by omega))).mono ?_
            rintro e wy ⟨ay, ny, cy, rfl, howny, hby⟩
            rw [hh]
            replace g0 := bcell hby g0
            replace g1 := bcell hby g1
            replace g2 := bcell hby g2
            have hby1 := hbz1.trans (hby.mono hbz1.size)
            obtain ⟨PF, hPF⟩ : ∃ PF, PF = putF fs name ⟨#[118]⟩ := ⟨_, rfl⟩
            rw [← hPF] at howny
            have hry := RF.of_owns howny
            have hsP : Srt PF := by rw [hPF]; exact srt_putF hF.out.srt _ _
            have hlP : PF.length = n + 1 := by rw [hPF, putF_len hF.out.srt, hh, hl.out]; rfl
            have hgP : getF PF name = some ⟨#[118]⟩ := by rw [hPF, getF_put hF.out.srt, if_pos rfl]
            have hhP : hasF PF name = true := by rw [← hasF_getF, hgP]; rfl
            have hdP : dropF PF name = fs := by rw [hPF]; exact drop_put hF.out.srt _ hh
            have hny : ny ≤ 256 := by have := hry.len; omega
            have hcP : costF PF = costF fs + (16 + name.size + 1) := by rw [hPF, put_new _ hh]; exact costF_ins fs _ (name, ⟨#[118]⟩)
            have hfP : ∀ f ∈ PF, fineF f := by rw [hPF]; exact fine_putF hF.out.srt hfine.out ⟨by show name.size ≤ 512; omega, by show (⟨#[118]⟩ : ByteArray).size ≤ 4096; decide⟩
            have hPne : PF ≠ [] := fun e => by rw [e] at hlP; simp at hlP
            replace hPF := Lib.hid hPF
            clear howny
            obtain ⟨W8, hW8⟩ : ∃ W, W = wy.alloc (.cells #[.int .i64 2, .string ⟨#[]⟩, .slice ay ny cy] 24) := ⟨_, rfl⟩
            have hb8 : Below wy.heap.size wy W8 := by rw [hW8]; exact (Below.refl _ _).alloc (Nat.le_refl _) _
            have y0 : W8.cell? ⟨wy.heap.size, 0, none⟩ = some (.int .i64 2) := by rw [hW8, World.cell?_alloc_new]; rfl
            have y1 : W8.cell? ⟨wy.heap.size, 1, none⟩ = some (.string ⟨#[]⟩) := by rw [hW8, World.cell?_alloc_new]; rfl
            have y2 : W8.cell? ⟨wy.heap.size, 2, none⟩ = some (.slice ay ny cy) := by rw [hW8, World.cell?_alloc_new]; rfl
            have hbly : Blk W8 wy.heap.size := by rw [hW8]; exact Blk.new _ _ _
            have hb18 := hby1.trans (hb8.mono hby1.size)
            have hry := hry.below hb8
            replace hry := Lib.hid hry
            replace g0 := bcell hb8 g0
            replace g1 := bcell hb8 g1
            replace g2 := bcell hb8 g2
            go_upto_region 17 with fail
            rw [← hW8]
            replace hW8 := Lib.hid hW8
            go_wp2_with fail
            refine (iget_any 2 ⟨#[]⟩ ay ny cy PF name _ (by decide) hry.out hsP (by omega)).mono ?_
            rintro e wx ⟨rfl, hbx9⟩
            rw [hgP, hhP]
            replace g0 := bcell hbx9 g0
            replace g1 := bcell hbx9 g1
            replace g2 := bcell hbx9 g2
            replace y0 := bcell hbx9 y0
            replace y1 := bcell hbx9 y1
            replace y2 := bcell hbx9 y2
            have hb19 := hb18.trans (hbx9.mono hb18.size)
            have hry := hry.out.below hbx9
            replace hry := Lib.hid hry
            have hFP : FitI 2 ⟨#[]⟩ ny PF := ⟨hsP, hny, by decide, fun _ => rfl, fun h => absurd h hPne, fun _ => hPne, Or.inr (Or.inr rfl), fun h => absurd rfl h⟩
            go_wp2_with fail
            refine (idrop_all hry.out hFP (hdrop.out PF hdP hhP)).mono ?_
            rintro e wu ⟨au, nu, cu, rfl, hru, hnu, hbu, hawu⟩
            replace g0 := bcell hbu g0
            replace g1 := bcell hbu g1
            replace g2 := bcell hbu g2
            replace y0 := bcell hbu y0
            replace y1 := bcell hbu y1
            replace y2 := bcell hbu y2
            have hb1u := hb19.trans (hbu.mono hb19.size)
            have hry := hry.out.below hbu
            clear hawu
            obtain ⟨W10, hW10⟩ : ∃ W, W = wu.alloc (.cells #[.int .i64 0, .string ⟨#[]⟩, .slice au nu cu] 24) := ⟨_, rfl⟩
            have hb10 : Below wu.heap.size wu W10 := by rw [hW10]; exact (Below.refl _ _).alloc (Nat.le_refl _) _
            have z0 : W10.cell? ⟨wu.heap.size, 0, none⟩ = some (.int .i64 0) := by rw [hW10, World.cell?_alloc_new]; rfl
            have z1 : W10.cell? ⟨wu.heap.size, 1, none⟩ = some (.string ⟨#[]⟩) := by rw [hW10, World.cell?_alloc_new]; rfl
            have z2 : W10.cell? ⟨wu.heap.size, 2, none⟩ = some (.slice au nu cu) := by rw [hW10, World.cell?_alloc_new]; rfl
            have hblz : Blk W10 wu.heap.size := by rw [hW10]; exact Blk.new _ _ _
            replace g0 := bcell hb10 g0
            replace g1 := bcell hb10 g1
            replace g2 := bcell hb10 g2
            replace y0 := bcell hb10 y0
            replace y1 := bcell hb10 y1
            replace y2 := bcell hb10 y2
            have hb110 := hb1u.trans (hb10.mono hb1u.size)
            have hry := hry.below hb10
            have hru := hru.below hb10
            have hrA := hr1.out.below hb110
            have hNA := hN1.out.below hb110
            have hmfs : ∀ f ∈ fs, modestF f := fun f hf => fine_modest (hfine.out f hf)
            have hmPF : ∀ f ∈ PF, modestF f := fun f hf => fine_modest (hfP f hf)
            obtain ⟨c, hc⟩ : ∃ c, c = costZ ⟨#[107]⟩ 0 t fs := ⟨_, rfl⟩
            have hcle : c ≤ 100000000000 := by rw [hc]; exact costZ_le _ _ _ _ (by decide) (by omega) (by have := hl.out; omega) hmfs
            have hd : costZ ⟨#[107]⟩ 2 ⟨#[]⟩ PF = c + 17 + name.size := by
              rw [hc]
              unfold costZ
              rw [if_neg (by decide), if_neg (by decide), hcP]
              omega
            have hA : ∀ W, Below W10.heap.size W10 W → Calls Tryd.prog 11 #[.agg #[.int .i64 2, .string ⟨#[]⟩, .slice ay ny cy]] W fun e w' => e = .returned (.bool true) ∧ Below W.heap.size W w' := fun W hb =>
              qp_q (right_any 2 ⟨#[]⟩ ay ny cy PF W (hry.below hb) (by omega)) ⟨fun _ => Or.inr ⟨rfl, rfl, List.length_pos_iff.2 hPne, by omega, hfP, hsP⟩, fun _ => rfl⟩
            have hB : ∀ W, Below W10.heap.size W10 W → Calls Tryd.prog 13 #[.agg #[.int .i64 0, .string ⟨#[]⟩, .slice au nu cu], .agg #[.int .i64 0, .string t, .slice a n cap]] W fun e w' => e = .returned (.bool true) ∧ Below W.heap.size W w' := fun W hb =>
              qp_q (isame_any 0 ⟨#[]⟩ au nu cu fs 0 t a n cap fs W (hru.below hb) (hrA.below hb) (by omega)) ⟨fun _ => ⟨rfl, ht0.out.symm, rfl⟩, fun _ => rfl⟩
            have hC : ∀ W, Below W10.heap.size W10 W → Calls Tryd.prog 15 #[.string ⟨#[107]⟩, .agg #[.int .i64 2, .string ⟨#[]⟩, .slice ay ny cy]] W fun e w' => e = .returned (.int .i64 ((c + 17 + name.size : Nat) : Int)) ∧ Below W.heap.size W w' := fun W hb => by
              rw [← hd]
              exact cost_any ⟨#[107]⟩ 2 ⟨#[]⟩ ay ny cy PF W (hry.below hb) (by omega) (by decide) (by decide) hmPF (hNA.below hb)
            have hD : ∀ W, Below W10.heap.size W10 W → Calls Tryd.prog 15 #[.string ⟨#[107]⟩, .agg #[.int .i64 0, .string t, .slice a n cap]] W fun e w' => e = .returned (.int .i64 (c : Int)) ∧ Below W.heap.size W w' := fun W hb => by
              rw [hc]
              exact cost_any ⟨#[107]⟩ 0 t a n cap fs W (hrA.below hb) (by omega) (by decide) (by omega) hmfs (hNA.below hb)
            have hw1 : IntKind.i64.wrap (((c + 17 + name.size : Nat) : Int) - (c : Int)) = 17 + (name.size : Int) := by rw [IntWalk.i64_in _ (by omega)]; omega
            have hw2 : IntKind.i64.wrap (17 + (name.size : Int)) = 17 + (name.size : Int) := IntWalk.i64_in _ (by omega)
            replace hA := Lib.hid hA
            replace hB := Lib.hid hB
            replace hC := Lib.hid hC
            replace hD := Lib.hid hD
            replace hc := Lib.hid hc
            replace hd := Lib.hid hd
            clear hry hru hrA hNA hmfs hmPF hgP hhP hdP hcP hfP hPne hsP hFP hlP
            have z1 : w.heap.size < W10.heap.size := World.block_lt_of_cell? _ _ g0
            have z2 : wy.heap.size < W10.heap.size := World.block_lt_of_cell? _ _ y0
            have z3 : wu.heap.size < W10.heap.size := World.block_lt_of_cell? _ _ z0
            have hbfin := hb0.trans (hb110.mono hb0.size)
            go_upto_region 21 with fail
            rw [← hW10]
            replace hW10 := Lib.hid hW10
            refine wp_region_grow (by kernel_rfl) (by kernel_rfl) ?_
            repeat (go_big_quiet_step ((first
              | (go_at_call 11; (with_reducible exact quiet_grow (hA.out _ (grow_below _ _))))
              | (go_at_call 13; (with_reducible exact quiet_grow (hB.out _ (grow_below _ _))))
              | (go_at_call 15; (with_reducible exact quiet_grow (hC.out _ (grow_below _ _))))
              | (go_at_call 15; (with_reducible exact quiet_grow (hD.out _ (grow_below _ _)))))))
            refine wpQuiet_nil ?_
            rintro _ ⟨xq, rfl⟩
            have hbq := hbfin.trans ((grow_below _ xq).mono hbfin.size)
            clear g0 g1 g2 y0 y1 y2 z0 z1 z2 hw1 hw2
            go_wp2
            go_ret
            exact ⟨by first | rfl | (simp; done) | (simp; omega), hbq⟩
    · exact absurd h1 hk1
    · subst h2
      go_wp2_with fail
      refine (iadd_hash t a n cap fs v _ (hr1.out.below hb13) (by omega)).mono ?_
      rintro e w4 ⟨k1, t1, a1, n1, c1, er, rfl, her, hb4⟩
      have her' : (er == 0) = false := by simpa using her
      replace g0 := bcell hb4 g0
      replace g1 := bcell hb4 g1
      replace g2 := bcell hb4 g2
      have hb14 := hb13.trans (hb4.mono hb13.size)
      have hfine : Hid (∀ f ∈ fs, fineF f) := Lib.hid (hfall.out (by decide))
      have ht0 : Hid (t = ⟨#[]⟩) := Lib.hid (hF.out.empty (by decide))
      have hdrop : ∀ PF, dropF PF name = fs → hasF PF name = true → dropS 2 ⟨#[]⟩ PF name = (2, ⟨#[]⟩, fs, true, 0) := fun PF h1 h2 => by
        have hne := hF.out.two rfl
        unfold dropS
        rw [if_neg (by decide), h1, h2, if_neg (fun e => hne (List.length_eq_zero_iff.1 e))]
      replace hdrop := Lib.hid hdrop
      obtain ⟨W5, hW5⟩ : ∃ W, W = w4.alloc (.cells #[.int .i64 k1, .string t1, .slice a1 n1 c1] 24) := ⟨_, rfl⟩
      have hb5 : Below w4.heap.size w4 W5 := by rw [hW5]; exact (Below.refl _ _).alloc (Nat.le_refl _) _
      have x0 : W5.cell? ⟨w4.heap.size, 0, none⟩ = some (.int .i64 k1) := by rw [hW5, World.cell?_alloc_new]; rfl
      have x1 : W5.cell? ⟨w4.heap.size, 1, none⟩ = some (.string t1) := by rw [hW5, World.cell?_alloc_new]; rfl
      have x2 : W5.cell? ⟨w4.heap.size, 2, none⟩ = some (.slice a1 n1 c1) := by rw [hW5, World.cell?_alloc_new]; rfl
      have hblx : Blk W5 w4.heap.size := by rw [hW5]; exact Blk.new _ _ _
      have hb15 := hb14.trans (hb5.mono hb14.size)
      replace g0 := bcell hb5 g0
      replace g1 := bcell hb5 g1
      replace g2 := bcell hb5 g2
      go_upto_region 6 with fail
      rw [← hW5]
      replace hW5 := Lib.hid hW5
      cases hh : hasF fs name with
      | true =>
        go_wp2_with fail
        refine (iget_any 2 t a n cap fs name _ (by decide) (hr1.out.below hb15) hF.out.srt (by omega)).mono ?_
        rintro e wz ⟨rfl, hbz⟩
        rw [hh]
        have hfin := hb0.trans ((hb15.trans (hbz.mono hb15.size)).mono hb0.size)
        clear g0 g1 g2
        go_wp2
        go_ret
        exact ⟨rfl, hfin⟩
      | false =>
        go_wp2_with fail
        refine (iget_any 2 t a n cap fs name _ (by decide) (hr1.out.below hb15) hF.out.srt (by omega)).mono ?_
        rintro e wz ⟨rfl, hbz⟩
        rw [hh]
        replace g0 := bcell hbz g0
        replace g1 := bcell hbz g1
        replace g2 := bcell hbz g2
        have hbz1 := hb15.trans (hbz.mono hb15.size)
        by_cases h256 : 256 ≤ n
        · have hn256 : (n : Int) = 256 := by omega
          have hn256' : ((n : Int) == 256) = true := by rw [hn256]; rfl
          go_wp2_with fail
          refine (iput_big 2 t a n cap fs name ⟨#[118]⟩ _ (by decide) (hr1.out.below hbz1) hF.out.srt (by omega) (tooBig_iff.2 (Or.inr ⟨hh, by have := hl.out; omega⟩))).mono ?_
          rintro e wy ⟨ay, cy, rfl, hry, hby⟩
          replace g0 := bcell hby g0
          replace g1 := bcell hby g1
          replace g2 := bcell hby g2
          have hfin := hb0.trans ((hbz1.trans (hby.mono hbz1.size)).mono hb0.size)
          obtain ⟨W8, hW8⟩ : ∃ W, W = wy.alloc (.cells #[.int .i64 2, .string t, .slice ay n cy] 24) := ⟨_, rfl⟩
          have hb8 : Below wy.heap.size wy W8 := by rw [hW8]; exact (Below.refl _ _).alloc (Nat.le_refl _) _
          have y0 : W8.cell? ⟨wy.heap.size, 0, none⟩ = some (.int .i64 2) := by rw [hW8, World.cell?_alloc_new]; rfl
          have y1 : W8.cell? ⟨wy.heap.size, 1, none⟩ = some (.string t) := by rw [hW8, World.cell?_alloc_new]; rfl
          have y2 : W8.cell? ⟨wy.heap.size, 2, none⟩ = some (.slice ay n cy) := by rw [hW8, World.cell?_alloc_new]; rfl
          have hbly : Blk W8 wy.heap.size := by rw [hW8]; exact Blk.new _ _ _
          replace g0 := bcell hb8 g0
          replace g1 := bcell hb8 g1
          replace g2 := bcell hb8 g2
          have hfin8 := hfin.trans (hb8.mono hfin.size)
          go_upto_region 17 with fail
          rw [← hW8]
          replace hW8 := Lib.hid hW8
          go_wp2
          go_ret
          exact ⟨by first | rfl | simp [hn256], hfin8⟩
        · go_wp2_with fail
          refine (iput_in 2 t a n cap fs name ⟨#[118]⟩ _ (by decide) (hr1.out.below hbz1) hF.out.srt (by omega) ⟨by show name.size ≤ 512; omega, by show (⟨#[118]⟩ : ByteArray).size ≤ 4096; decide⟩ (Or.inr (by omega))).mono ?_
          rintro e wy ⟨ay, ny, cy, rfl, howny, hby⟩
          rw [hh]
          replace g0 := bcell hby g0
          replace g1 := bcell hby g1
          replace g2 := bcell hby g2
          have hby1 := hbz1.trans (hby.mono hbz1.size)
          obtain ⟨PF, hPF⟩ : ∃ PF, PF = putF fs name ⟨#[118]⟩ := ⟨_, rfl⟩
          rw [← hPF] at howny
          have hry := RF.of_owns howny
          have hsP : Srt PF := by rw [hPF]; exact srt_putF hF.out.srt _ _
          have hlP : PF.length = n + 1 := by rw [hPF, putF_len hF.out.srt, hh, hl.out]; rfl
          have hgP : getF PF name = some ⟨#[118]⟩ := by rw [hPF, getF_put hF.out.srt, if_pos rfl]
          have hhP : hasF PF name = true := by rw [← hasF_getF, hgP]; rfl
          have hdP : dropF PF name = fs := by rw [hPF]; exact drop_put hF.out.srt _ hh
          have hny : ny ≤ 256 := by have := hry.len; omega
          have hcP : costF PF = costF fs + (16 + name.size + 1) := by rw [hPF, put_new _ hh]; exact costF_ins fs _ (name, ⟨#[118]⟩)
          have hfP : ∀ f ∈ PF, fineF f := by rw [hPF]; exact fine_putF hF.out.srt hfine.out ⟨by show name.size ≤ 512; omega, by show (⟨#[118]⟩ : ByteArray).size ≤ 4096; decide⟩
          have hPne : PF ≠ [] := fun e => by rw [e] at hlP; simp at hlP
          replace hPF := Lib.hid hPF
          clear howny
          obtain ⟨W8, hW8⟩ : ∃ W, W = wy.alloc (.cells #[.int .i64 2, .string ⟨#[]⟩, .slice ay ny cy] 24) := ⟨_, rfl⟩
          have hb8 : Below wy.heap.size wy W8 := by rw [hW8]; exact (Below.refl _ _).alloc (Nat.le_refl _) _
          have y0 : W8.cell? ⟨wy.heap.size, 0, none⟩ = some (.int .i64 2) := by rw [hW8, World.cell?_alloc_new]; rfl
          have y1 : W8.cell? ⟨wy.heap.size, 1, none⟩ = some (.string ⟨#[]⟩) := by rw [hW8, World.cell?_alloc_new]; rfl
          have y2 : W8.cell? ⟨wy.heap.size, 2, none⟩ = some (.slice ay ny cy) := by rw [hW8, World.cell?_alloc_new]; rfl
          have hbly : Blk W8 wy.heap.size := by rw [hW8]; exact Blk.new _ _ _
          have hb18 := hby1.trans (hb8.mono hby1.size)
          have hry := hry.below hb8
          replace hry := Lib.hid hry
          replace g0 := bcell hb8 g0
          replace g1 := bcell hb8 g1
          replace g2 := bcell hb8 g2
          go_upto_region 17 with fail
          rw [← hW8]
          replace hW8 := Lib.hid hW8
          go_wp2_with fail
          refine (iget_any 2 ⟨#[]⟩ ay ny cy PF name _ (by decide) hry.out hsP (by omega)).mono ?_
          rintro e wx ⟨rfl, hbx9⟩
          rw [hgP, hhP]
          replace g0 := bcell hbx9 g0
          replace g1 := bcell hbx9 g1
          replace g2 := bcell hbx9 g2
          replace y0 := bcell hbx9 y0
          replace y1 := bcell hbx9 y1
          replace y2 := bcell hbx9 y2
          have hb19 := hb18.trans (hbx9.mono hb18.size)
          have hry := hry.out.below hbx9
          replace hry := Lib.hid hry
          have hFP : FitI 2 ⟨#[]⟩ ny PF := ⟨hsP, hny, by decide, fun _ => rfl, fun h => absurd h hPne, fun _ => hPne, Or.inr (Or.inr rfl), fun h => absurd rfl h⟩
          go_wp2_with fail
          refine (idrop_all hry.out hFP (hdrop.out PF hdP hhP)).mono ?_
          rintro e wu ⟨au, nu, cu, rfl, hru, hnu, hbu, hawu⟩
          replace g0 := bcell hbu g0
          replace g1 := bcell hbu g1
          replace g2 := bcell hbu g2
          replace y0 := bcell hbu y0
          replace y1 := bcell hbu y1
          replace y2 := bcell hbu y2
          have hb1u := hb19.trans (hbu.mono hb19.size)
          have hry := hry.out.below hbu
          clear hawu
          obtain ⟨W10, hW10⟩ : ∃ W, W = wu.alloc (.cells #[.int .i64 2, .string ⟨#[]⟩, .slice au nu cu] 24) := ⟨_, rfl⟩
          have hb10 : Below wu.heap.size wu W10 := by rw [hW10]; exact (Below.refl _ _).alloc (Nat.le_refl _) _
          have z0 : W10.cell? ⟨wu.heap.size, 0, none⟩ = some (.int .i64 2) := by rw [hW10, World.cell?_alloc_new]; rfl
          have z1 : W10.cell? ⟨wu.heap.size, 1, none⟩ = some (.string ⟨#[]⟩) := by rw [hW10, World.cell?_alloc_new]; rfl
          have z2 : W10.cell? ⟨wu.heap.size, 2, none⟩ = some (.slice au nu cu) := by rw [hW10, World.cell?_alloc_new]; rfl
          have hblz : Blk W10 wu.heap.size := by rw [hW10]; exact Blk.new _ _ _
          replace g0 := bcell hb10 g0
          replace g1 := bcell hb10 g1
          replace g2 := bcell hb10 g2
          replace y0 := bcell hb10 y0
          replace y1 := bcell hb10 y1
          replace y2 := bcell hb10 y2
          have hb110 := hb1u.trans (hb10.mono hb1u.size)
          have hry := hry.below hb10
          have hru := hru.below hb10
          have hrA := hr1.out.below hb110
          have hNA := hN1.out.below hb110
          have hmfs : ∀ f ∈ fs, modestF f := fun f hf => fine_modest (hfine.out f hf)
          have hmPF : ∀ f ∈ PF, modestF f := fun f hf => fine_modest (hfP f hf)
          obtain ⟨c, hc⟩ : ∃ c, c = costZ ⟨#[107]⟩ 2 t fs := ⟨_, rfl⟩
          have hcle : c ≤ 100000000000 := by rw [hc]; exact costZ_le _ _ _ _ (by decide) (by omega) (by have := hl.out; omega) hmfs
          have hd : costZ ⟨#[107]⟩ 2 ⟨#[]⟩ PF = c + 17 + name.size := by
            rw [hc]
            unfold costZ
            rw [if_neg (by decide), if_neg (by decide), hcP]
            omega
          have hA : ∀ W, Below W10.heap.size W10 W → Calls Tryd.prog 11 #[.agg #[.int .i64 2, .string ⟨#[]⟩, .slice ay ny cy]] W fun e w' => e = .returned (.bool true) ∧ Below W.heap.size W w' := fun W hb =>
            qp_q (right_any 2 ⟨#[]⟩ ay ny cy PF W (hry.below hb) (by omega)) ⟨fun _ => Or.inr ⟨rfl, rfl, List.length_pos_iff.2 hPne, by omega, hfP, hsP⟩, fun _ => rfl⟩
          have hB : ∀ W, Below W10.heap.size W10 W → Calls Tryd.prog 13 #[.agg #[.int .i64 2, .string ⟨#[]⟩, .slice au nu cu], .agg #[.int .i64 2, .string t, .slice a n cap]] W fun e w' => e = .returned (.bool true) ∧ Below W.heap.size W w' := fun W hb =>
            qp_q (isame_any 2 ⟨#[]⟩ au nu cu fs 2 t a n cap fs W (hru.below hb) (hrA.below hb) (by omega)) ⟨fun _ => ⟨rfl, ht0.out.symm, rfl⟩, fun _ => rfl⟩
          have hC : ∀ W, Below W10.heap.size W10 W → Calls Tryd.prog 15 #[.string ⟨#[107]⟩, .agg #[.int .i64 2, .string ⟨#[]⟩, .slice ay ny cy]] W fun e w' => e = .returned (.int .i64 ((c + 17 + name.size : Nat) : Int)) ∧ Below W.heap.size W w' := fun W hb => by
            rw [← hd]
            exact cost_any ⟨#[107]⟩ 2 ⟨#[]⟩ ay ny cy PF W (hry.below hb) (by omega) (by decide) (by decide) hmPF (hNA.below hb)
          have hD : ∀ W, Below W10.heap.size W10 W → Calls Tryd.prog 15 #[.string ⟨#[107]⟩, .agg #[.int .i64 2, .string t, .slice a n cap]] W fun e w' => e = .returned (.int .i64 (c : Int)) ∧ Below W.heap.size W w' := fun W hb => by
            rw [hc]
            exact cost_any ⟨#[107]⟩ 2 t a n cap fs W (hrA.below hb) (by omega) (by decide) (by omega) hmfs (hNA.below hb)
          have hw1 : IntKind.i64.wrap (((c + 17 + name.size : Nat) : Int) - (c : Int)) = 17 + (name.size : Int) := by rw [IntWalk.i64_in _ (by omega)]; omega
          have hw2 : IntKind.i64.wrap (17 + (name.size : Int)) = 17 + (name.size : Int) := IntWalk.i64_in _ (by omega)
          replace hA := Lib.hid hA
          replace hB := Lib.hid hB
          replace hC := Lib.hid hC
          replace hD := Lib.hid hD
          replace hc := Lib.hid hc
          replace hd := Lib.hid hd
          clear hry hru hrA hNA hmfs hmPF hgP hhP hdP hcP hfP hPne hsP hFP hlP
          have z1 : w.heap.size < W10.heap.size := World.block_lt_of_cell? _ _ g0
          have z2 : wy.heap.size < W10.heap.size := World.block_lt_of_cell? _ _ y0
          have z3 : wu.heap.size < W10.heap.size := World.block_lt_of_cell? _ _ z0
          have hbfin := hb0.trans (hb110.mono hb0.size)
          go_upto_region 21 with fail
          rw [← hW10]
          replace hW10 := Lib.hid hW10
          refine wp_region_grow (by kernel_rfl) (by kernel_rfl) ?_
          repeat (go_big_quiet_step ((first
            | (go_at_call 11; (with_reducible exact quiet_grow (hA.out _ (grow_below _ _))))
            | (go_at_call 13; (with_reducible exact quiet_grow (hB.out _ (grow_below _ _))))
            | (go_at_call 15; (with_reducible exact quiet_grow (hC.out _ (grow_below _ _))))
            | (go_at_call 15; (with_reducible exact quiet_grow (hD.out _ (grow_below _ _)))))))
          refine wpQuiet_nil ?_
          rintro _ ⟨xq, rfl⟩
          have hbq := hbfin.trans ((grow_below _ xq).mono hbfin.size)
          clear g0 g1 g2 y0 y1 y2 z0 z1 z2 hw1 hw2
          go_wp2
          go_ret
          exact ⟨by first | rfl | (simp; done) | (simp; omega), hbq⟩
end Go.Proofs.YteoalcmhdoopnaaDoor
