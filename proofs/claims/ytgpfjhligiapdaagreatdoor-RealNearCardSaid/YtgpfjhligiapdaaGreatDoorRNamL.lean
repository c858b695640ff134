/- real.Parse of what has no digits, of nought, of what is beyond all; RealNames: its walk. -/
import Derived.Test.YtgpfjhligiapdaaGreatDoorAtof2
import Derived.Test.YtgpfjhligiapdaaGreatDoorRSignL
namespace Go.Proofs.YtgpfjhligiapdaaGreatDoor
open Go.RowKit

/-- The error of what is out of range, as it lies. -/
structure Rng (w : World) : Prop where
  rng : ∃ te pe, w.cell? ⟨2, 0, none⟩ = some (.iface te pe)
theorem Rng.below {w w' : World} (h : Rng w) (hb : Below w.heap.size w w') : Rng w' := let ⟨te, pe, hv⟩ := h.rng; ⟨te, pe, cell_below hb _ _ hv⟩
theorem inf_pos (w : World) : Calls Tryz.prog 21 #[.int .i64 1] w fun e w' => e = .returned (.float .f64 9218868437227405312) ∧ w' = w := by
  have f1 : ∀ w, (callFunc 13 #[.int .u64 9218868437227405312]).run Tryz.prog w = .ok (.value (.float .f64 9218868437227405312)) w := fun w => mfrom_run 9218868437227405312 w
  go_enter Tryz.func21, Tryz.ntmps21
  go_wp2
  go_ret
  exact ⟨rfl, rfl⟩
theorem inf_neg (w : World) : Calls Tryz.prog 21 #[.int .i64 (-1)] w fun e w' => e = .returned (.float .f64 18442240474082181120) ∧ w' = w := by
  have f1 : ∀ w, (callFunc 13 #[.int .u64 18442240474082181120]).run Tryz.prog w = .ok (.value (.float .f64 18442240474082181120)) w := fun w => mfrom_run 18442240474082181120 w
  go_enter Tryz.func21, Tryz.ntmps21
  go_wp2
  go_ret
  exact ⟨rfl, rfl⟩
theorem parse_inf (w : World) : Calls Tryz.prog 10 #[.string ⟨#[105, 110, 102]⟩] w fun e w' => e = .returned (.tuple #[.float .f64 9218868437227405312, .int .i64 0]) ∧ w' = w := by
  have hi := inf_pos
  go_enter Tryz.func10, Tryz.ntmps10
  go_wp2_with fail
  refine (hi _).mono ?_
  rintro e w' ⟨rfl, hww⟩
  obtain rfl := hww.symm
  clear hww
  go_wp2
  go_ret2
  exact ⟨rfl, rfl⟩
theorem parse_minf (w : World) : Calls Tryz.prog 10 #[.string ⟨#[45, 105, 110, 102]⟩] w fun e w' => e = .returned (.tuple #[.float .f64 18442240474082181120, .int .i64 0]) ∧ w' = w := by
  have hi := inf_neg
  go_enter Tryz.func10, Tryz.ntmps10
  go_wp2_with fail
  refine (hi _).mono ?_
  rintro e w' ⟨rfl, hww⟩
  obtain rfl := hww.symm
  clear hww
  go_wp2
  go_ret2
  exact ⟨rfl, rfl⟩
theorem parse_nan (w : World) : Calls Tryz.prog 10 #[.string ⟨#[110, 97, 110]⟩] w fun e w' => e = .returned (.tuple #[.float .f64 9221120237041090561, .int .i64 0]) ∧ w' = w := by
  have f1 : ∀ w, (callFunc 13 #[.int .u64 9221120237041090561]).run Tryz.prog w = .ok (.value (.float .f64 9221120237041090561)) w := fun w => mfrom_run 9221120237041090561 w
  go_enter Tryz.func10, Tryz.ntmps10
  go_wp2
  go_ret2
  exact ⟨rfl, rfl⟩
theorem minus_txt : FTxt ⟨#[45, 48]⟩ true false [48] 1 0 := by
  refine ⟨⟨48, [], [], rfl, by decide, ?_, .none, ?_⟩, by show (2 : Nat) ≤ 1000; omega, by simp⟩
  · simp only [scanM]
    rw [if_neg (by decide), if_pos (by decide)]
    rfl
  · intro b hb
    simp only [List.mem_cons, List.not_mem_nil, or_false] at hb
    rw [hb]; exact .inl (by decide)
theorem parse_mzero {w : World} (hP : Par w) : Calls Tryz.prog 10 #[.string ⟨#[45, 48]⟩] w fun e w' => e = .returned (.tuple #[.float .f64 9223372036854775808, .int .i64 0]) ∧ Below w.heap.size w w' :=
  parse_num (neg := true) (c := 48) (l := []) rfl (by decide) (by decide) (by decide +kernel) fun w' hb => sparse_ok (atof_zero minus_txt (by decide +kernel) (hP.below hb))
theorem e999_txt : FTxt ⟨#[49, 101, 57, 57, 57]⟩ false false [49] 1 999 := by
  refine ⟨⟨49, [101, 57, 57, 57], [101, 57, 57, 57], rfl, by decide, ?_, ?_, ?_⟩, by show (5 : Nat) ≤ 1000; omega, by simp⟩
  · simp only [scanM]
    rw [if_neg (by decide), if_pos (by decide), if_neg (by decide), if_neg (by decide)]
    rfl
  · have := ExpAt.bare (E := [57, 57, 57]) (by simp) (by decide)
    rw [show ((capE [57, 57, 57] : Nat) : Int) = 999 by decide +kernel] at this
    exact this
  · intro b hb
    simp only [List.mem_cons, List.not_mem_nil, or_false] at hb
    rcases hb with rfl | rfl | rfl | rfl | rfl
    · exact .inl (by decide)
    · exact .inr (.inr (.inl (by decide)))
    all_goals exact .inl (by decide)
/-- strconv.ParseFloat where the number is beyond all. -/
theorem sparse_range {s : ByteArray} {r : Nat} {w : World} (hs : s.size ≤ 1000) (hR : Rng w) (h : Calls Tryz.prog 52 #[.string s] w fun e w' => e = .returned (.tuple #[.float .f64 r, .int .i64 (s.size : Int), .iface 64 (.int .i64 1)]) ∧ w' = w) :
    Calls Tryz.prog 23 #[.string s, .int .i64 64] w fun e w' => ∃ N, e = .returned (.tuple #[.float .f64 r, .iface 65 (.pointer (some ⟨N, 0, none⟩))]) ∧ Below w.heap.size w w' := by
  have h2 : Calls Tryz.prog 42 #[.string s, .int .i64 64] w fun e w' => e = .returned (.tuple #[.float .f64 r, .int .i64 (s.size : Int), .iface 64 (.int .i64 1)]) ∧ w' = w := by
    replace h := Lib.hid h
    go_enter Tryz.func42, Tryz.ntmps42
    go_wp2_with fail
    refine h.out.mono ?_
    rintro e w' ⟨rfl, hww⟩
    obtain rfl := hww.symm
    clear hww
    go_wp2
    exact bodyPost_ret (v := .tuple #[.float .f64 r, .int .i64 (s.size : Int), .iface 64 (.int .i64 1)]) (by simp [results, Tryz.results42, go_sem]) rfl ⟨rfl, rfl⟩
  have h3 : Calls Tryz.prog 35 #[.string s, .int .i64 64] w fun e w' => e = .returned (.tuple #[.float .f64 r, .iface 64 (.int .i64 1)]) ∧ w' = w := by
    replace h2 := Lib.hid h2
    clear h
    have hbs : ((s.size : Int) != (s.size : Int)) = false := by simp
    go_enter Tryz.func35, Tryz.ntmps35
    go_wp2_with fail
    refine h2.out.mono ?_
    rintro e w' ⟨rfl, hww⟩
    obtain rfl := hww.symm
    clear hww
    go_wp2
    go_ret2
    exact ⟨rfl, rfl⟩
  obtain ⟨te, pe, hv⟩ := hR.rng
  have ht := Tryz.strconv_toError_range ⟨#[80, 97, 114, 115, 101, 70, 108, 111, 97, 116]⟩ s 0 64 (.iface te pe) w (by omega) hv (.inr ⟨te, pe, rfl⟩)
  replace h3 := Lib.hid h3
  replace ht := Lib.hid ht
  clear h h2 hv
  go_enter Tryz.func23, Tryz.ntmps23
  go_wp2_with fail
  refine h3.out.mono ?_
  rintro e w' ⟨rfl, hww⟩
  obtain rfl := hww.symm
  clear hww
  go_wp2_with fail
  refine ht.out.mono ?_
  rintro e w2 ⟨N, rfl, _, _, hb⟩
  go_wp2
  go_ret2
  exact ⟨N, rfl, hb⟩
theorem parse_e999 {w : World} (hP : Par w) (hR : Rng w) : Calls Tryz.prog 10 #[.string ⟨#[49, 101, 57, 57, 57]⟩] w fun e w' => e = .returned (.tuple #[.float .f64 0, .int .i64 21]) ∧ Below w.heap.size w w' := by
  have hra := right_any (s := ⟨#[49, 101, 57, 57, 57]⟩) (by decide) w
  rw [show rightL (⟨#[49, 101, 57, 57, 57]⟩ : ByteArray).data.toList = true by decide +kernel] at hra
  have hp : ∀ w', Below w.heap.size w w' → _ := fun w' hb => sparse_range (s := ⟨#[49, 101, 57, 57, 57]⟩) (by decide) (hR.below hb) (atof_range (i := 999) e999_txt (by decide +kernel) (by decide +kernel) (by omega) (by omega) (hP.below hb))
  replace hra := Lib.hid hra
  replace hp := Lib.hid hp
  go_enter Tryz.func10, Tryz.ntmps10
  go_wp2_with fail
  refine hra.out.mono ?_
  rintro e w1 ⟨rfl, hb⟩
  have hp1 := hp.out w1 hb
  replace hp1 := Lib.hid hp1
  go_wp2_with fail
  refine hp1.out.mono ?_
  rintro e w2 ⟨N, rfl, hb2⟩
  have hb02 := hb.trans (hb2.mono hb.size)
  go_wp2
  go_ret2
  exact ⟨rfl, hb02⟩
end Go.Proofs.YtgpfjhligiapdaaGreatDoor
