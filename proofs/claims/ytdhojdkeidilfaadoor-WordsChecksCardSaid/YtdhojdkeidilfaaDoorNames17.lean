/- WordsNames: its walk. -/
import Derived.Test.YtdhojdkeidilfaaDoorAllR
namespace Go.Proofs.YtdhojdkeidilfaaDoor
open Go.RowKit

theorem check_none : checkF [] = (zeroSpec, ⟨#[69, 82, 82, 32, 110, 111, 32, 99, 111, 109, 109, 97, 110, 100]⟩) := by kernel_rfl
theorem check_what : checkF [⟨#[119, 104, 97, 116]⟩] = (zeroSpec, ⟨#[69, 82, 82, 32, 117, 110, 107, 110, 111, 119, 110, 32, 99, 111, 109, 109, 97, 110, 100]⟩) := by kernel_rfl
theorem check_mset : checkF [⟨#[109, 115, 101, 116]⟩, ⟨#[97]⟩, ⟨#[49]⟩, ⟨#[98]⟩] = (zeroSpec, ⟨#[69, 82, 82, 32, 119, 114, 111, 110, 103, 32, 110, 117, 109, 98, 101, 114, 32, 111, 102, 32, 97, 114, 103, 117, 109, 101, 110, 116, 115, 32, 102, 111, 114, 32, 109, 115, 101, 116]⟩) := by kernel_rfl
set_option maxRecDepth 100000 in
set_option maxHeartbeats 6400000 in
theorem namesL17_any (w : World) : Calls Tryd.prog 3 #[] w fun e w' => e = .returned (.bool true) ∧ Below w.heap.size w w' := by
  go_enter Tryd.func3, Tryd.ntmps3
  go_wp2_with fail
  refine (all17_any w).mono ?_
  rintro e w1 ⟨b1, rfl, hb1, hB1, hT1, hw1⟩
  go_wp2_with fail
  refine (R2.refAll_any w1).mono ?_
  rintro e w2 ⟨v2, rfl, hown2, hw2⟩
  have hT2 := range_below hw2 hT1
  obtain ⟨b2, c2, rfl, hb2, hb2l⟩ := hown2.form (by omega)
  have hR2 : w2.rangeAt b2 0 (words17.flatMap Spec.cells) := fun j u hj => by
    rw [Nat.zero_add]
    have hlen : (words17.flatMap Spec.cells).length = 39 * 7 := by simpa using hown2.1
    rw [hown2.cellAt j (by have := (List.getElem?_eq_some_iff.1 hj).1; omega)]; exact hj
  have hw12 := hw1.trans (hw2.mono hw1.size)
  clear hown2 hw1 hw2 hT1 hB1
  go_wp2_with fail
  refine (alive17_any w2).mono ?_
  rintro e w3 ⟨rfl, hb3⟩
  have hT3 := range_below hb3 hT2
  have hR3 := range_below hb3 hR2
  have hw13 := hw12.trans (hb3.mono hw12.size)
  clear hT2 hR2 hw12 hb3
  replace hT3 := Lib.hid hT3
  replace hR3 := Lib.hid hR3
  replace hw13 := Lib.hid hw13
  go_wp2_with fail
  go_loopw [29] (fun i wr => ∃ j : Nat, j ≤ 39 ∧ i = .int .i64 j ∧ wr.rangeAt b1 0 (words17.flatMap Spec.cells) ∧ wr.rangeAt b2 0 (words17.flatMap Spec.cells) ∧ Below w.heap.size w wr) (fun i _ => 39 - (intOf i).toNat)
  case atStart => exact ⟨0, Nat.zero_le _, rfl, hT3.out, hR3.out, hw13.out⟩
  case round =>
    obtain ⟨j, hj, rfl, hT, hR, hbel⟩ := hrel
    clear hT3 hR3 hw13
    by_cases hlt : j < 39
    · have hlti : (j : Int) < 39 := by omega
      have hk : j < words17.length := by rw [len17]; omega
      obtain ⟨d0, d1, d2, d3, d4, d5, d6⟩ := row7 hT hk
      obtain ⟨g0, g1, g2, g3, g4, g5, g6⟩ := row7 hR hk
      obtain ⟨x, hxq⟩ : ∃ x, x = words17[j]'hk := ⟨_, rfl⟩
      rw [← hxq] at d0 d1 d2 d3 d4 d5 d6 g0 g1 g2 g3 g4 g5 g6
      replace hT := Lib.hid hT
      replace hR := Lib.hid hR
      replace hbel := Lib.hid hbel
      clear hxq hk
      have hl1 : b1 < wr.heap.size := World.block_lt_of_cell? _ _ d0
      have hl2 : b2 < wr.heap.size := World.block_lt_of_cell? _ _ g0
      go_wp2_with fail
      go_region_held3 (fun w' => Below (wr).heap.size (wr) w' ∧ ∀ b o, b < (wr).heap.size → w'.cell? ⟨b, o, none⟩ = (wr).cell? ⟨b, o, none⟩) (first | assumption | exact kp_drew | exact kp_keep2 (by assumption) (by assumption) | exact kp_keep (by assumption) (by assumption) | exact kp_alloc (by assumption) _) (fail)
      go_wp2_with fail
      go_roundw
      case rel => exact ⟨j + 1, by omega, by go_num, fun q u hq => by simpa using hT.out q u hq, fun q u hq => by simpa using hR.out q u hq, hbel.out.drew⟩
      case measure => simp [intOf]; omega
    · have hlti : ¬ (j : Int) < 39 := by omega
      clear hT hR
      have hr0 : Reads wr 1 (.slice none 0 0) 0 (([] : List ByteArray).map Value.string) := ⟨none, 0, rfl, rfl, fun j u h => by simp at h⟩
      go_wp2_with fail
      refine (check17_any hr0 (by decide) (by decide)).mono ?_
      rintro e w4 ⟨he, hb4⟩
      rw [check_none] at he
      replace he : e = .returned (.tuple #[.agg #[.string ⟨#[]⟩, .int .i64 0, .int .i64 0, .int .i64 0, .int .i64 0, .int .i64 0, .int .i64 0], .string ⟨#[69, 82, 82, 32, 110, 111, 32, 99, 111, 109, 109, 97, 110, 100]⟩]) := he
      subst he
      have hb5 := (Below.refl w4.heap.size w4).alloc (Nat.le_refl _) (.cells #[.string ⟨#[]⟩, .int .i64 0, .int .i64 0, .int .i64 0, .int .i64 0, .int .i64 0, .int .i64 0] 26)
      have hb14 := hbel.trans (hb4.mono hbel.size)
      have hb15 := hb14.trans (hb5.mono hb14.size)
      clear hbel hb4 hb5 hb14 hr0
      replace hb15 := Lib.hid hb15
      go_wp2_with fail
      have hs5 : (w4.alloc (.cells #[.string ⟨#[]⟩, .int .i64 0, .int .i64 0, .int .i64 0, .int .i64 0, .int .i64 0, .int .i64 0] 26)).heap.size = w4.heap.size + 1 := by simp
      generalize w4.alloc (.cells #[.string ⟨#[]⟩, .int .i64 0, .int .i64 0, .int .i64 0, .int .i64 0, .int .i64 0, .int .i64 0] 26) = w5 at *
      have hr5 := reads_new [(⟨#[119, 104, 97, 116]⟩ : ByteArray)] 1 rfl w5
      rw [hs5] at hr5
      have hb56 := (Below.refl w5.heap.size w5).alloc (Nat.le_refl _) (.cells #[.string (⟨#[119, 104, 97, 116]⟩ : ByteArray)] 9)
      refine (check17_any hr5 (by decide) (by decide)).mono ?_
      rintro e w6 ⟨he, hb6⟩
      rw [check_what] at he
      replace he : e = .returned (.tuple #[.agg #[.string ⟨#[]⟩, .int .i64 0, .int .i64 0, .int .i64 0, .int .i64 0, .int .i64 0, .int .i64 0], .string ⟨#[69, 82, 82, 32, 117, 110, 107, 110, 111, 119, 110, 32, 99, 111, 109, 109, 97, 110, 100]⟩]) := he
      subst he
      have hb7 := (Below.refl w6.heap.size w6).alloc (Nat.le_refl _) (.cells #[.string ⟨#[]⟩, .int .i64 0, .int .i64 0, .int .i64 0, .int .i64 0, .int .i64 0, .int .i64 0] 26)
      have hb156 := hb15.out.trans (hb56.mono hb15.out.size)
      have hb16 := hb156.trans (hb6.mono hb156.size)
      have hb17 := hb16.trans (hb7.mono hb16.size)
      clear hb15 hb56 hb6 hb7 hb156 hb16 hr5
      replace hb17 := Lib.hid hb17
      go_wp2_with fail
      have hs7 : (w6.alloc (.cells #[.string ⟨#[]⟩, .int .i64 0, .int .i64 0, .int .i64 0, .int .i64 0, .int .i64 0, .int .i64 0] 26)).heap.size = w6.heap.size + 1 := by simp
      generalize w6.alloc (.cells #[.string ⟨#[]⟩, .int .i64 0, .int .i64 0, .int .i64 0, .int .i64 0, .int .i64 0, .int .i64 0] 26) = w7 at *
      have hr7 := reads_new ([⟨#[109, 115, 101, 116]⟩, ⟨#[97]⟩, ⟨#[49]⟩, ⟨#[98]⟩] : List ByteArray) 4 rfl w7
      rw [hs7] at hr7
      have hb78 := (Below.refl w7.heap.size w7).alloc (Nat.le_refl _) (.cells (([⟨#[109, 115, 101, 116]⟩, ⟨#[97]⟩, ⟨#[49]⟩, ⟨#[98]⟩] : List ByteArray).map Value.string).toArray 9)
      refine (check17_any hr7 (by decide) (by decide)).mono ?_
      rintro e w8 ⟨he, hb8⟩
      rw [check_mset] at he
      replace he : e = .returned (.tuple #[.agg #[.string ⟨#[]⟩, .int .i64 0, .int .i64 0, .int .i64 0, .int .i64 0, .int .i64 0, .int .i64 0], .string ⟨#[69, 82, 82, 32, 119, 114, 111, 110, 103, 32, 110, 117, 109, 98, 101, 114, 32, 111, 102, 32, 97, 114, 103, 117, 109, 101, 110, 116, 115, 32, 102, 111, 114, 32, 109, 115, 101, 116]⟩]) := he
      subst he
      have hb9 := (Below.refl w8.heap.size w8).alloc (Nat.le_refl _) (.cells #[.string ⟨#[]⟩, .int .i64 0, .int .i64 0, .int .i64 0, .int .i64 0, .int .i64 0, .int .i64 0] 26)
      have hb18 := hb17.out.trans (hb78.mono hb17.out.size)
      have hb19 := hb18.trans (hb8.mono hb18.size)
      have hb20 := hb19.trans (hb9.mono hb19.size)
      clear hb17 hb78 hb8 hb9 hb18 hb19 hr7
      replace hb20 := Lib.hid hb20
      go_wp2
      go_ret
      exact ⟨rfl, hb20.out⟩
end Go.Proofs.YtdhojdkeidilfaaDoor
