/- Values that are made. -/
import Derived.Test.YtapiinfnedhmoaaDoorMeas
namespace Go.Proofs.YtapiinfnedhmoaaDoor
open Go.RowKit

theorem text_any (s : ByteArray) (w : World) : Calls Tryd.prog 25 #[.string s] w fun e w' => e = .returned (.agg #[.int .i64 4, .string s, .int .i64 0, .float .f64 0, .bool false, .slice none 0 0]) ∧ Below w.heap.size w w' := by
  have hal := (Below.refl w.heap.size w).alloc (Nat.le_refl _) (.cells #[.int .i64 4, .string s, .int .i64 0, .float .f64 0, .bool false, .slice none 0 0] 25)
  replace hal := Lib.hid hal
  go_enter Tryd.func25, Tryd.ntmps25
  go_wp2
  exact bodyPost_ret (v := .agg #[.int .i64 4, .string s, .int .i64 0, .float .f64 0, .bool false, .slice none 0 0]) (by simp [results, Tryd.results25, go_sem]) rfl ⟨rfl, hal.out⟩
theorem fail_any (s : ByteArray) (w : World) : Calls Tryd.prog 21 #[.string s] w fun e w' => e = .returned (.agg #[.int .i64 2, .string s, .int .i64 0, .float .f64 0, .bool false, .slice none 0 0]) ∧ Below w.heap.size w w' := by
  have hal := (Below.refl w.heap.size w).alloc (Nat.le_refl _) (.cells #[.int .i64 2, .string s, .int .i64 0, .float .f64 0, .bool false, .slice none 0 0] 25)
  replace hal := Lib.hid hal
  go_enter Tryd.func21, Tryd.ntmps21
  go_wp2
  exact bodyPost_ret (v := .agg #[.int .i64 2, .string s, .int .i64 0, .float .f64 0, .bool false, .slice none 0 0]) (by simp [results, Tryd.results21, go_sem]) rfl ⟨rfl, hal.out⟩
theorem int_any (n : Int) (w : World) : Calls Tryd.prog 18 #[.int .i64 n] w fun e w' => e = .returned (.agg #[.int .i64 3, .string ⟨#[]⟩, .int .i64 n, .float .f64 0, .bool false, .slice none 0 0]) ∧ Below w.heap.size w w' := by
  have hal := (Below.refl w.heap.size w).alloc (Nat.le_refl _) (.cells #[.int .i64 3, .string ⟨#[]⟩, .int .i64 n, .float .f64 0, .bool false, .slice none 0 0] 25)
  replace hal := Lib.hid hal
  go_enter Tryd.func18, Tryd.ntmps18
  go_wp2
  exact bodyPost_ret (v := .agg #[.int .i64 3, .string ⟨#[]⟩, .int .i64 n, .float .f64 0, .bool false, .slice none 0 0]) (by simp [results, Tryd.results18, go_sem]) rfl ⟨rfl, hal.out⟩
theorem ok_any (w : World) : Calls Tryd.prog 20 #[] w fun e w' => e = .returned (.agg #[.int .i64 1, .string ⟨#[79, 75]⟩, .int .i64 0, .float .f64 0, .bool false, .slice none 0 0]) ∧ Below w.heap.size w w' := by
  have hal := (Below.refl w.heap.size w).alloc (Nat.le_refl _) (.cells #[.int .i64 1, .string ⟨#[79, 75]⟩, .int .i64 0, .float .f64 0, .bool false, .slice none 0 0] 25)
  replace hal := Lib.hid hal
  go_enter Tryd.func20, Tryd.ntmps20
  go_wp2
  exact bodyPost_ret (v := .agg #[.int .i64 1, .string ⟨#[79, 75]⟩, .int .i64 0, .float .f64 0, .bool false, .slice none 0 0]) (by simp [results, Tryd.results20, go_sem]) rfl ⟨rfl, hal.out⟩
theorem nil_any (w : World) : Calls Tryd.prog 19 #[] w fun e w' => e = .returned (.agg #[.int .i64 6, .string ⟨#[]⟩, .int .i64 0, .float .f64 0, .bool false, .slice none 0 0]) ∧ Below w.heap.size w w' := by
  have hal := (Below.refl w.heap.size w).alloc (Nat.le_refl _) (.cells #[.int .i64 6, .string ⟨#[]⟩, .int .i64 0, .float .f64 0, .bool false, .slice none 0 0] 25)
  replace hal := Lib.hid hal
  go_enter Tryd.func19, Tryd.ntmps19
  go_wp2
  exact bodyPost_ret (v := .agg #[.int .i64 6, .string ⟨#[]⟩, .int .i64 0, .float .f64 0, .bool false, .slice none 0 0]) (by simp [results, Tryd.results19, go_sem]) rfl ⟨rfl, hal.out⟩

/-- A list of the call's own, copied. -/
theorem list_any (l : List V) (a : Option Addr) (n cap : Nat) (w : World) (hv : RV w.cell? (cells6 5 ⟨#[]⟩ 0 0 false a n cap) (.mk 5 ⟨#[]⟩ 0 0 false l)) (hc : (V.mk 5 ⟨#[]⟩ 0 0 false l).count ≤ 100000000) :
    Calls Tryd.prog 17 #[.slice a n cap] w fun e w' => ∃ (a' : Option Addr) (cap' : Nat), e = .returned (.agg #[.int .i64 5, .string ⟨#[]⟩, .int .i64 0, .float .f64 0, .bool false, .slice a' n cap']) ∧
      RV (newer w.heap.size w') (cells6 5 ⟨#[]⟩ 0 0 false a' n cap') (.mk 5 ⟨#[]⟩ 0 0 false l) ∧ Below w.heap.size w w' ∧ ∀ ad, a' = some ad → ad = ⟨ad.block, 0, none⟩ ∧ w.heap.size ≤ ad.block ∧ Blk w' ad.block := by
  obtain ⟨W1, hW1⟩ : ∃ W1, W1 = w.alloc (.cells #[.int .i64 0, .string ⟨#[]⟩, .int .i64 0, .float .f64 0, .bool false, .slice none 0 0] 25) := ⟨_, rfl⟩
  have hal : Below w.heap.size w W1 := by rw [hW1]; exact (Below.refl w.heap.size w).alloc (Nat.le_refl _) _
  have hs1 : W1.heap.size = w.heap.size + 1 := by rw [hW1]; simp
  have hC : ∀ q u, #[.int .i64 0, .string ⟨#[]⟩, .int .i64 0, .float .f64 0, .bool false, .slice none 0 0][q]? = some u → W1.cell? ⟨w.heap.size, q, none⟩ = some u := fun q u h => by rw [hW1, World.cell?_alloc_new]; exact h
  have hfC : Blk W1 w.heap.size := by rw [hW1]; exact Blk.new w _ _
  have hv1 := hv.mono (cell_below hal)
  replace hv1 := Lib.hid hv1
  replace hal := Lib.hid hal
  replace hW1 := Lib.hid hW1
  replace hs1 := Lib.hid hs1
  replace hC := Lib.hid hC
  clear hv
  go_enter Tryd.func17, Tryd.ntmps17
  go_wp2_with fail
  rw [← hW1.out]
  refine (copy_anyK (.mk 5 ⟨#[]⟩ 0 0 false l) _ _ _ _ _ _ _ _ W1 hv1.out hc).mono ?_
  rintro e w2 ⟨a', cap', rfl, hr, hb2, hwr⟩
  have g0 := cell_below hb2 _ _ (hC.out 0 (.int .i64 0) rfl)
  have g1 := cell_below hb2 _ _ (hC.out 1 (.string ⟨#[]⟩) rfl)
  have g2 := cell_below hb2 _ _ (hC.out 2 (.int .i64 0) rfl)
  have g3 := cell_below hb2 _ _ (hC.out 3 (.float .f64 0) rfl)
  have g4 := cell_below hb2 _ _ (hC.out 4 (.bool false) rfl)
  have g5 := cell_below hb2 _ _ (hC.out 5 (.slice none 0 0) rfl)
  have fC := hfC.of_block (hb2.block _ (by rw [hs1.out]; omega))
  have hrC : w2.rangeAt w.heap.size 0 [.int .i64 0, .string ⟨#[]⟩, .int .i64 0, .float .f64 0, .bool false, .slice none 0 0] := range6 g0 g1 g2 g3 g4 g5
  have htC := there_of (n := 6) hrC fC rfl
  have hrR : (w2.setCells w.heap.size 0 [.int .i64 5, .string ⟨#[]⟩, .int .i64 0, .float .f64 0, .bool false, .slice a' n cap']).rangeAt w.heap.size 0 [.int .i64 5, .string ⟨#[]⟩, .int .i64 0, .float .f64 0, .bool false, .slice a' n cap'] :=
    World.rangeAt_setCells_same _ _ _ _ htC
  have hfin : Fr (fun k => k = w.heap.size) w2 (w2.setCells w.heap.size 0 [.int .i64 5, .string ⟨#[]⟩, .int .i64 0, .float .f64 0, .bool false, .slice a' n cap']) :=
    Fr.setCells (S := fun k => k = w.heap.size) (fun _ => rfl) _ _ _ (Fr.refl _ w2)
  have hbw : Below w.heap.size w w2 := hal.out.trans (hb2.mono (by rw [hs1.out]; omega))
  replace hrR := Lib.hid hrR
  replace htC := Lib.hid htC
  replace hr := Lib.hid hr
  replace hwr := Lib.hid hwr
  clear g0 g1 g2 g3 g4 g5 hrC
  go_wp2_with (refine wpList_store_mid rfl 25 _ _ rfl w.heap.size 0 _ rfl rfl htC.out infoVal (one6 _ _ _ _ _ _ _ _) ?_)
  refine bodyPost_ret (results_cell1 (v := .agg #[.int .i64 5, .string ⟨#[]⟩, .int .i64 0, .float .f64 0, .bool false, .slice a' n cap']) rfl rfl (run_loadVar_mid (P := Tryd.prog) _ _ 0 25 _ _ hrR.out Tryd.underlying25 rfl infoVal)) rfl ⟨a', cap', rfl, ?_, ?_, ?_⟩
  · refine hr.out.mono (fun ad u h => ?_)
    obtain ⟨h1, h2⟩ := newer_cell h
    have := hs1.out
    unfold newer
    rw [if_neg (by omega)]
    exact hfin.cell h1 (fun e => by omega)
  · exact hbw.trans (hfin.below hbw.size (fun i hi h => by omega))
  · intro ad ha
    obtain ⟨q1, q2, q3⟩ := hwr.out ad ha
    have := hs1.out
    exact ⟨q1, by omega, q3.fr hfin (fun h => by omega)⟩
end Go.Proofs.YtapiinfnedhmoaaDoor
