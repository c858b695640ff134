/- ValueChecks: its walk. -/
import Derived.Test.YtapiinfnedhmoaaDoorAll03
import Derived.Test.YtapiinfnedhmoaaDoorAlive03
import Derived.Deep.DeepCutAuto
namespace Go.Proofs.YtapiinfnedhmoaaDoor
open Go.RowKit

set_option maxRecDepth 100000 in
set_option maxHeartbeats 6400000 in
theorem checks03_any (v : V) (a : Option Addr) (cap : Nat) (w : World) (hv : RV w.cell? (cells6 v.kind v.text v.int v.real v.flag a v.list.length cap) v) (hs : v.sized) :
    Calls Tryd.prog 3 #[.agg #[.int .i64 v.kind, .string v.text, .int .i64 v.int, .float .f64 v.real, .bool v.flag, .slice a v.list.length cap]] w fun e w' => e = .returned (.bool true) ∧ Below w.heap.size w w' := by
  obtain ⟨W1, hW1⟩ : ∃ W1, W1 = w.alloc (.cells #[.int .i64 v.kind, .string v.text, .int .i64 v.int, .float .f64 v.real, .bool v.flag, .slice a v.list.length cap] 25) := ⟨_, rfl⟩
  have hb0 : Below w.heap.size w W1 := by rw [hW1]; exact (Below.refl _ _).alloc (Nat.le_refl _) _
  have hB : ∀ q u, #[.int .i64 v.kind, .string v.text, .int .i64 v.int, .float .f64 v.real, .bool v.flag, .slice a v.list.length cap][q]? = some u → W1.cell? ⟨w.heap.size, q, none⟩ = some u := fun q u h => by rw [hW1, World.cell?_alloc_new]; exact h
  have hv1 := hv.mono (cell_below hb0)
  replace hW1 := Lib.hid hW1
  replace hb0 := Lib.hid hb0
  replace hB := Lib.hid hB
  replace hv1 := Lib.hid hv1
  clear hv
  go_enter Tryd.func3, Tryd.ntmps3
  go_wp2_with fail
  rw [← hW1.out]
  refine (alive03_any W1).mono ?_
  rintro e w1 ⟨rfl, hb1⟩
  have g0 := cell_below hb1 _ _ (hB.out 0 (.int .i64 v.kind) rfl)
  have g1 := cell_below hb1 _ _ (hB.out 1 (.string v.text) rfl)
  have g2 := cell_below hb1 _ _ (hB.out 2 (.int .i64 v.int) rfl)
  have g3 := cell_below hb1 _ _ (hB.out 3 (.float .f64 v.real) rfl)
  have g4 := cell_below hb1 _ _ (hB.out 4 (.bool v.flag) rfl)
  have g5 := cell_below hb1 _ _ (hB.out 5 (.slice a v.list.length cap) rfl)
  go_wp2_with fail
  refine (small_any (v := v) (hv1.out.mono (cell_below hb1))).mono ?_
  rintro e w2 ⟨b, rfl, hb, hb2⟩
  have hb12 := hb1.trans (hb2.mono hb1.size)
  have hbw2 := hb0.out.trans (hb12.mono hb0.out.size)
  clear g0 g1 g2 g3 g4 g5
  cases b with
  | false =>
    replace hb := Lib.hid hb
    go_wp2
    go_ret
    exact ⟨rfl, hbw2⟩
  | true =>
  have hc : v.count ≤ 100000 := by have := (hb rfl).1; omega
  have g0 := cell_below hb12 _ _ (hB.out 0 (.int .i64 v.kind) rfl)
  have g1 := cell_below hb12 _ _ (hB.out 1 (.string v.text) rfl)
  have g2 := cell_below hb12 _ _ (hB.out 2 (.int .i64 v.int) rfl)
  have g3 := cell_below hb12 _ _ (hB.out 3 (.float .f64 v.real) rfl)
  have g4 := cell_below hb12 _ _ (hB.out 4 (.bool v.flag) rfl)
  have g5 := cell_below hb12 _ _ (hB.out 5 (.slice a v.list.length cap) rfl)
  have hv2 := hv1.out.mono (cell_below hb12)
  have hl2 : w.heap.size < w2.heap.size := World.block_lt_of_cell? _ _ g0
  have hrc := right_check v
  have hdc := v.dep_count
  replace hv2 := Lib.hid hv2
  clear hb hb1 hb2 hb12
  cases hr : rightB v with
  | true =>
    have hz : checkZ v = 0 := by rw [hr] at hrc; simpa using hrc
    replace hr := Lib.hid hr
    replace hz := Lib.hid hz
    clear hrc
    go_wp2_with fail
    go_region_held3 (fun w' => Below w2.heap.size w2 w' ∧ ∀ b o, b < w2.heap.size → w'.cell? ⟨b, o, none⟩ = w2.cell? ⟨b, o, none⟩) (first | (with_reducible assumption) | (with_reducible exact kp_drew) | exact kp_keep (by with_reducible assumption) (by with_reducible assumption))
      (first
        | (go_at_call 11; refine (check_any v a cap _ (hv2.out.mono (cell_below (And.left (by with_reducible assumption)))) hs hc).mono ?_; rintro e w5 ⟨rfl, hb5⟩; rw [hz.out])
        | (go_at_call 12; refine (rright_any v a cap _ (hv2.out.mono (cell_below (And.left (by with_reducible assumption)))) hs hc).mono ?_; rintro e w5 ⟨rfl, hb5⟩; rw [hr.out])
        | (go_at_call 13; refine (depth_any v a cap _ (hv2.out.mono (cell_below (And.left (by with_reducible assumption)))) hc).mono ?_; rintro e w5 ⟨rfl, hb5⟩)
        | (go_at_call 14; refine (rdepth_any v a cap _ (hv2.out.mono (cell_below (And.left (by with_reducible assumption)))) hc).mono ?_; rintro e w5 ⟨rfl, hb5⟩)
        | (go_at_call 15; refine (count_any v a cap _ (hv2.out.mono (cell_below (And.left (by with_reducible assumption)))) hc).mono ?_; rintro e w5 ⟨rfl, hb5⟩)
        | (go_at_call 16; refine (rcount_any v a cap _ (hv2.out.mono (cell_below (And.left (by with_reducible assumption)))) hc).mono ?_; rintro e w5 ⟨rfl, hb5⟩))
    all_goals
      have hS := And.left (show Below w2.heap.size w2 _ ∧ ∀ b o, b < w2.heap.size → _ from by with_reducible assumption)
      go_wp2
      go_ret
      exact ⟨rfl, hbw2.trans (hS.mono hbw2.size)⟩
  | false =>
    have hz : checkZ v = 31 := by
      rw [hr] at hrc
      unfold checkZ at hrc ⊢
      split at hrc
      · simp at hrc
      · rename_i h; rw [if_neg h]
    replace hr := Lib.hid hr
    replace hz := Lib.hid hz
    clear hrc
    go_wp2_with fail
    go_region_held3 (fun w' => Below w2.heap.size w2 w' ∧ ∀ b o, b < w2.heap.size → w'.cell? ⟨b, o, none⟩ = w2.cell? ⟨b, o, none⟩) (first | (with_reducible assumption) | (with_reducible exact kp_drew) | exact kp_keep (by with_reducible assumption) (by with_reducible assumption))
      (first
        | (go_at_call 11; refine (check_any v a cap _ (hv2.out.mono (cell_below (And.left (by with_reducible assumption)))) hs hc).mono ?_; rintro e w5 ⟨rfl, hb5⟩; rw [hz.out])
        | (go_at_call 12; refine (rright_any v a cap _ (hv2.out.mono (cell_below (And.left (by with_reducible assumption)))) hs hc).mono ?_; rintro e w5 ⟨rfl, hb5⟩; rw [hr.out])
        | (go_at_call 13; refine (depth_any v a cap _ (hv2.out.mono (cell_below (And.left (by with_reducible assumption)))) hc).mono ?_; rintro e w5 ⟨rfl, hb5⟩)
        | (go_at_call 14; refine (rdepth_any v a cap _ (hv2.out.mono (cell_below (And.left (by with_reducible assumption)))) hc).mono ?_; rintro e w5 ⟨rfl, hb5⟩)
        | (go_at_call 15; refine (count_any v a cap _ (hv2.out.mono (cell_below (And.left (by with_reducible assumption)))) hc).mono ?_; rintro e w5 ⟨rfl, hb5⟩)
        | (go_at_call 16; refine (rcount_any v a cap _ (hv2.out.mono (cell_below (And.left (by with_reducible assumption)))) hc).mono ?_; rintro e w5 ⟨rfl, hb5⟩))
    all_goals
      have hS := And.left (show Below w2.heap.size w2 _ ∧ ∀ b o, b < w2.heap.size → _ from by with_reducible assumption)
      go_wp2
      go_ret
      exact ⟨rfl, hbw2.trans (hS.mono hbw2.size)⟩
end Go.Proofs.YtapiinfnedhmoaaDoor
