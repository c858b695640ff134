/- The statements of layer 3: what they share. -/
import Derived.Test.YtapiinfnedhmoaaDoorMade
namespace Go.Proofs.YtapiinfnedhmoaaDoor
open Go.RowKit

/-- A list whose elements' cells stand in a row. -/
theorem rv_row {c : Addr → Option Value} (k : Int) (t : ByteArray) (i : Int) (r : Nat) (f : Bool) (b : Nat) (cap : Nat) (l : List V) (css : List (List Value)) (hr : RVs c css l) (hc : ∀ (q : Nat) u, css.flatten[q]? = some u → c ⟨b, q, none⟩ = some u) :
    RV c (cells6 k t i r f (some ⟨b, 0, none⟩) l.length cap) (.mk k t i r f l) := by
  refine RV.mk k t i r f _ _ _ l css rfl hr.1 (fun j x hx => ⟨b, 0, rfl, fun q u hu => ?_⟩) hr.2
  have h6 := hr.len6
  have := hc _ _ (flat_at h6 j x hx q u hu)
  rw [show 0 + j * 6 + q = j * 6 + q by omega]
  exact this
abbrev aA : ByteArray := ⟨#[97]⟩
abbrev vA : V := .mk 4 aA 0 0 false []
abbrev v1 : V := .mk 3 ⟨#[]⟩ 1 0 false []
abbrev vOne : V := .mk 12 ⟨#[]⟩ 0 0 false [vA]
abbrev vTwo : V := .mk 12 ⟨#[]⟩ 0 0 false [vA, v1]
abbrev cA : List Value := [.int .i64 4, .string aA, .int .i64 0, .float .f64 0, .bool false, .slice none 0 0]
abbrev c1 : List Value := [.int .i64 3, .string ⟨#[]⟩, .int .i64 1, .float .f64 0, .bool false, .slice none 0 0]
theorem one_check : checkZ vOne = 31 := by kernel_rfl
theorem two_check : checkZ vTwo = 0 := by kernel_rfl
theorem two_dep : vTwo.dep = 1 := by kernel_rfl
theorem two_count : vTwo.count = 3 := by kernel_rfl

set_option maxHeartbeats 3200000 in
theorem alive03_any (w : World) : Calls Tryd.prog 9 #[] w fun e w' => e = .returned (.bool true) ∧ Below w.heap.size w w' := by
  go_enter Tryd.func9, Tryd.ntmps9
  go_wp2_with fail
  refine (text_any aA w).mono ?_
  rintro e w1 ⟨rfl, hb1⟩
  have hx : Below w1.heap.size w1 ((w1.alloc (.cells #[.int .i64 4, .string aA, .int .i64 0, .float .f64 0, .bool false, .slice none 0 0] 25)).alloc (.cells #[.int .i64 12, .string ⟨#[]⟩, .int .i64 0, .float .f64 0, .bool false, .slice (some ⟨w1.heap.size, 0, none⟩) 1 1] 25)) := ((Below.refl _ _).alloc (Nat.le_refl _) _).alloc (by simp) _
  have r1 : RV ((w1.alloc (.cells #[.int .i64 4, .string aA, .int .i64 0, .float .f64 0, .bool false, .slice none 0 0] 25)).alloc (.cells #[.int .i64 12, .string ⟨#[]⟩, .int .i64 0, .float .f64 0, .bool false, .slice (some ⟨w1.heap.size, 0, none⟩) 1 1] 25)).cell? (cells6 12 ⟨#[]⟩ 0 0 false (some ⟨w1.heap.size, 0, none⟩) 1 1) vOne :=
    rv_row 12 ⟨#[]⟩ 0 0 false _ 1 [vA] [cA] ((RVs.nil _).snoc (RV.leaf _ _ _ _ _ _ _ _)) (fun q u h => by simpa using h)
  have bx : ∀ q u, #[Value.int .i64 12, .string ⟨#[]⟩, .int .i64 0, .float .f64 0, .bool false, .slice (some ⟨w1.heap.size, 0, none⟩) 1 1][q]? = some u → ((w1.alloc (.cells #[.int .i64 4, .string aA, .int .i64 0, .float .f64 0, .bool false, .slice none 0 0] 25)).alloc (.cells #[.int .i64 12, .string ⟨#[]⟩, .int .i64 0, .float .f64 0, .bool false, .slice (some ⟨w1.heap.size, 0, none⟩) 1 1] 25)).cell? ⟨w1.heap.size + 1, q, none⟩ = some u := fun q u h => by
    rw [World.cell?_alloc_at _ _ _ _ (by simp)]; exact h
  have hbb := hb1.trans (hx.mono hb1.size)
  clear hb1 hx
  go_wp2_with fail
  change Calls _ _ _ ((w1.alloc (.cells #[.int .i64 4, .string aA, .int .i64 0, .float .f64 0, .bool false, .slice none 0 0] 25)).alloc (.cells #[.int .i64 12, .string ⟨#[]⟩, .int .i64 0, .float .f64 0, .bool false, .slice (some ⟨w1.heap.size, 0, none⟩) 1 1] 25)) _
  generalize ((w1.alloc (.cells #[.int .i64 4, .string aA, .int .i64 0, .float .f64 0, .bool false, .slice none 0 0] 25)).alloc (.cells #[.int .i64 12, .string ⟨#[]⟩, .int .i64 0, .float .f64 0, .bool false, .slice (some ⟨w1.heap.size, 0, none⟩) 1 1] 25)) = W2 at *
  refine (text_any aA W2).mono ?_
  rintro e w3 ⟨rfl, hb3⟩
  go_wp2_with fail
  refine (int_any 1 w3).mono ?_
  rintro e w4 ⟨rfl, hb4⟩
  have hb24 := hb3.trans (hb4.mono hb3.size)
  have hbw4 := hbb.trans (hb24.mono hbb.size)
  have r14 := r1.mono (cell_below hb24)
  have b0 := cell_below hb24 _ _ (bx 0 (.int .i64 12) rfl)
  have b1 := cell_below hb24 _ _ (bx 1 (.string ⟨#[]⟩) rfl)
  have b2 := cell_below hb24 _ _ (bx 2 (.int .i64 0) rfl)
  have b3 := cell_below hb24 _ _ (bx 3 (.float .f64 0) rfl)
  have b4 := cell_below hb24 _ _ (bx 4 (.bool false) rfl)
  have b5 := cell_below hb24 _ _ (bx 5 (.slice (some ⟨w1.heap.size, 0, none⟩) 1 1) rfl)
  have hl14 : w1.heap.size + 1 < w4.heap.size := World.block_lt_of_cell? _ _ b0
  have hx : Below w4.heap.size w4 ((w4.alloc (.cells #[.int .i64 4, .string aA, .int .i64 0, .float .f64 0, .bool false, .slice none 0 0, .int .i64 3, .string ⟨#[]⟩, .int .i64 1, .float .f64 0, .bool false, .slice none 0 0] 25)).alloc (.cells #[.int .i64 12, .string ⟨#[]⟩, .int .i64 0, .float .f64 0, .bool false, .slice (some ⟨w4.heap.size, 0, none⟩) 2 2] 25)) := ((Below.refl _ _).alloc (Nat.le_refl _) _).alloc (by simp) _
  have r2 : RV ((w4.alloc (.cells #[.int .i64 4, .string aA, .int .i64 0, .float .f64 0, .bool false, .slice none 0 0, .int .i64 3, .string ⟨#[]⟩, .int .i64 1, .float .f64 0, .bool false, .slice none 0 0] 25)).alloc (.cells #[.int .i64 12, .string ⟨#[]⟩, .int .i64 0, .float .f64 0, .bool false, .slice (some ⟨w4.heap.size, 0, none⟩) 2 2] 25)).cell? (cells6 12 ⟨#[]⟩ 0 0 false (some ⟨w4.heap.size, 0, none⟩) 2 2) vTwo :=
    rv_row 12 ⟨#[]⟩ 0 0 false _ 2 [vA, v1] [cA, c1] (((RVs.nil _).snoc (RV.leaf _ _ _ _ _ _ _ _)).snoc (RV.leaf _ _ _ _ _ _ _ _)) (fun q u h => by simpa using h)
  have bx2 : ∀ q u, #[Value.int .i64 12, .string ⟨#[]⟩, .int .i64 0, .float .f64 0, .bool false, .slice (some ⟨w4.heap.size, 0, none⟩) 2 2][q]? = some u → ((w4.alloc (.cells #[.int .i64 4, .string aA, .int .i64 0, .float .f64 0, .bool false, .slice none 0 0, .int .i64 3, .string ⟨#[]⟩, .int .i64 1, .float .f64 0, .bool false, .slice none 0 0] 25)).alloc (.cells #[.int .i64 12, .string ⟨#[]⟩, .int .i64 0, .float .f64 0, .bool false, .slice (some ⟨w4.heap.size, 0, none⟩) 2 2] 25)).cell? ⟨w4.heap.size + 1, q, none⟩ = some u := fun q u h => by
    rw [World.cell?_alloc_at _ _ _ _ (by simp)]; exact h
  have r15 := r14.mono (cell_below hx)
  have b0 := cell_below hx _ _ b0
  have b1 := cell_below hx _ _ b1
  have b2 := cell_below hx _ _ b2
  have b3 := cell_below hx _ _ b3
  have b4 := cell_below hx _ _ b4
  have b5 := cell_below hx _ _ b5
  have hbw5 := hbw4.trans (hx.mono hbw4.size)
  replace r15 := Lib.hid r15
  replace r2 := Lib.hid r2
  replace bx2 := Lib.hid bx2
  replace hbw5 := Lib.hid hbw5
  clear r14 r1 bx hb24 hbw4 hbb hb3 hb4 hx
  go_wp2_with fail
  clear b0 b1 b2 b3 b4 b5
  change Calls _ _ _ ((w4.alloc (.cells #[.int .i64 4, .string aA, .int .i64 0, .float .f64 0, .bool false, .slice none 0 0, .int .i64 3, .string ⟨#[]⟩, .int .i64 1, .float .f64 0, .bool false, .slice none 0 0] 25)).alloc (.cells #[.int .i64 12, .string ⟨#[]⟩, .int .i64 0, .float .f64 0, .bool false, .slice (some ⟨w4.heap.size, 0, none⟩) 2 2] 25)) _
  generalize ((w4.alloc (.cells #[.int .i64 4, .string aA, .int .i64 0, .float .f64 0, .bool false, .slice none 0 0, .int .i64 3, .string ⟨#[]⟩, .int .i64 1, .float .f64 0, .bool false, .slice none 0 0] 25)).alloc (.cells #[.int .i64 12, .string ⟨#[]⟩, .int .i64 0, .float .f64 0, .bool false, .slice (some ⟨w4.heap.size, 0, none⟩) 2 2] 25)) = W5 at *
  refine (check_any vOne _ _ W5 r15.out (by simp [V.sized, V.sizedL, ByteArray.size]) (by decide)).mono ?_
  rintro e w6 ⟨rfl, hb6⟩
  rw [one_check]
  have b0 := cell_below hb6 _ _ (bx2.out 0 (.int .i64 12) rfl)
  have b1 := cell_below hb6 _ _ (bx2.out 1 (.string ⟨#[]⟩) rfl)
  have b2 := cell_below hb6 _ _ (bx2.out 2 (.int .i64 0) rfl)
  have b3 := cell_below hb6 _ _ (bx2.out 3 (.float .f64 0) rfl)
  have b4 := cell_below hb6 _ _ (bx2.out 4 (.bool false) rfl)
  have b5 := cell_below hb6 _ _ (bx2.out 5 (.slice (some ⟨w4.heap.size, 0, none⟩) 2 2) rfl)
  go_wp2_with fail
  refine (check_any vTwo _ _ w6 (r2.out.mono (cell_below hb6)) (by simp [V.sized, V.sizedL, ByteArray.size]) (by decide)).mono ?_
  rintro e w7 ⟨rfl, hb7⟩
  rw [two_check]
  have hb57 := hb6.trans (hb7.mono hb6.size)
  clear b0 b1 b2 b3 b4 b5
  have b0 := cell_below hb57 _ _ (bx2.out 0 (.int .i64 12) rfl)
  have b1 := cell_below hb57 _ _ (bx2.out 1 (.string ⟨#[]⟩) rfl)
  have b2 := cell_below hb57 _ _ (bx2.out 2 (.int .i64 0) rfl)
  have b3 := cell_below hb57 _ _ (bx2.out 3 (.float .f64 0) rfl)
  have b4 := cell_below hb57 _ _ (bx2.out 4 (.bool false) rfl)
  have b5 := cell_below hb57 _ _ (bx2.out 5 (.slice (some ⟨w4.heap.size, 0, none⟩) 2 2) rfl)
  go_wp2_with fail
  refine (depth_any vTwo _ _ w7 (r2.out.mono (cell_below hb57)) (by decide)).mono ?_
  rintro e w8 ⟨rfl, hb8⟩
  rw [two_dep]
  have hb58 := hb57.trans (hb8.mono hb57.size)
  clear b0 b1 b2 b3 b4 b5
  have b0 := cell_below hb58 _ _ (bx2.out 0 (.int .i64 12) rfl)
  have b1 := cell_below hb58 _ _ (bx2.out 1 (.string ⟨#[]⟩) rfl)
  have b2 := cell_below hb58 _ _ (bx2.out 2 (.int .i64 0) rfl)
  have b3 := cell_below hb58 _ _ (bx2.out 3 (.float .f64 0) rfl)
  have b4 := cell_below hb58 _ _ (bx2.out 4 (.bool false) rfl)
  have b5 := cell_below hb58 _ _ (bx2.out 5 (.slice (some ⟨w4.heap.size, 0, none⟩) 2 2) rfl)
  go_wp2_with fail
  refine (count_any vTwo _ _ w8 (r2.out.mono (cell_below hb58)) (by decide)).mono ?_
  rintro e w9 ⟨rfl, hb9⟩
  rw [two_count]
  have hb59 := hb58.trans (hb9.mono hb58.size)
  have hfin := hbw5.out.trans (hb59.mono hbw5.out.size)
  clear b0 b1 b2 b3 b4 b5
  go_wp2
  go_ret
  exact ⟨rfl, hfin⟩
end Go.Proofs.YtapiinfnedhmoaaDoor
