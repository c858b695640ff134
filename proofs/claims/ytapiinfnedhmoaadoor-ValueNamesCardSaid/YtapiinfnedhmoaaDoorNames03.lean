/- ValueNames: its walk. -/
import Derived.Test.YtapiinfnedhmoaaDoorAlive03
import Derived.Deep.DeepCutAuto
import Derived.Test.YtapiinfnedhmoaaDoorQuiet
namespace Go.Proofs.YtapiinfnedhmoaaDoor
open Go.RowKit

abbrev vOk : V := .mk 1 ⟨#[79, 75]⟩ 0 0 false []
abbrev vNil : V := .mk 6 ⟨#[]⟩ 0 0 false []
abbrev vNo : V := .mk 2 ⟨#[110, 111]⟩ 0 0 false []
set_option maxRecDepth 100000 in
set_option maxHeartbeats 3200000 in
theorem names03_any (w : World) : Calls Tryd.prog 6 #[] w fun e w' => e = .returned (.bool true) ∧ Below w.heap.size w w' := by
  go_enter Tryd.func6, Tryd.ntmps6
  go_wp2_with fail
  refine (ok_any w).mono ?_
  rintro e w1 ⟨rfl, hb1⟩
  go_wp2_with fail
  refine (nil_any w1).mono ?_
  rintro e w2 ⟨rfl, hb2⟩
  go_wp2_with fail
  refine (fail_any ⟨#[110, 111]⟩ w2).mono ?_
  rintro e w3 ⟨rfl, hb3⟩
  have hb03 := hb1.trans ((hb2.mono hb1.size).trans (hb3.mono (Nat.le_trans hb1.size hb2.size)))
  have hx : Below w3.heap.size w3 (w3.alloc (.cells #[.int .i64 1, .string ⟨#[79, 75]⟩, .int .i64 0, .float .f64 0, .bool false, .slice none 0 0, .int .i64 6, .string ⟨#[]⟩, .int .i64 0, .float .f64 0, .bool false, .slice none 0 0, .int .i64 2, .string ⟨#[110, 111]⟩, .int .i64 0, .float .f64 0, .bool false, .slice none 0 0] 25)) := (Below.refl _ _).alloc (Nat.le_refl _) _
  have r1 : RV (w3.alloc (.cells #[.int .i64 1, .string ⟨#[79, 75]⟩, .int .i64 0, .float .f64 0, .bool false, .slice none 0 0, .int .i64 6, .string ⟨#[]⟩, .int .i64 0, .float .f64 0, .bool false, .slice none 0 0, .int .i64 2, .string ⟨#[110, 111]⟩, .int .i64 0, .float .f64 0, .bool false, .slice none 0 0] 25)).cell? (cells6 5 ⟨#[]⟩ 0 0 false (some ⟨w3.heap.size, 0, none⟩) 3 3) (.mk 5 ⟨#[]⟩ 0 0 false [vOk, vNil, vNo]) :=
    rv_row 5 ⟨#[]⟩ 0 0 false _ 3 [vOk, vNil, vNo] [[.int .i64 1, .string ⟨#[79, 75]⟩, .int .i64 0, .float .f64 0, .bool false, .slice none 0 0], [.int .i64 6, .string ⟨#[]⟩, .int .i64 0, .float .f64 0, .bool false, .slice none 0 0], [.int .i64 2, .string ⟨#[110, 111]⟩, .int .i64 0, .float .f64 0, .bool false, .slice none 0 0]]
      ((((RVs.nil _).snoc (RV.leaf _ _ _ _ _ _ _ _)).snoc (RV.leaf _ _ _ _ _ _ _ _)).snoc (RV.leaf _ _ _ _ _ _ _ _)) (fun q u h => by simpa using h)
  have hb04 := hb03.trans (hx.mono hb03.size)
  replace r1 := Lib.hid r1
  clear hb1 hb2 hb3 hb03 hx
  go_wp2_with fail
  generalize (w3.alloc (.cells #[.int .i64 1, .string ⟨#[79, 75]⟩, .int .i64 0, .float .f64 0, .bool false, .slice none 0 0, .int .i64 6, .string ⟨#[]⟩, .int .i64 0, .float .f64 0, .bool false, .slice none 0 0, .int .i64 2, .string ⟨#[110, 111]⟩, .int .i64 0, .float .f64 0, .bool false, .slice none 0 0] 25)) = w4 at *
  refine (list_any [vOk, vNil, vNo] _ 3 3 w4 r1.out (by decide)).mono ?_
  rintro e w5 ⟨a, cap, rfl, hr, hb5, -⟩
  have hb05 := hb04.trans (hb5.mono hb04.size)
  obtain ⟨b, o, _, a0, cap0, rfl, _, e0, e1, _⟩ := RV.elem hr (j := 0) (by omega)
  obtain ⟨b', o', _, a1, cap1, he, _, f0, f1, _⟩ := RV.elem hr (j := 1) (by omega)
  cases he
  obtain ⟨b', o', _, a2, cap2, he, _, g0, g1, _⟩ := RV.elem hr (j := 2) (by omega)
  cases he
  have e0 : w5.cell? ⟨b, o, none⟩ = some (.int .i64 1) := by simpa [V.list, V.kind] using (newer_cell e0).1
  have e1 : w5.cell? ⟨b, o + 1, none⟩ = some (.string ⟨#[79, 75]⟩) := by simpa [V.list, V.text] using (newer_cell e1).1
  have f0 : w5.cell? ⟨b, o + 6, none⟩ = some (.int .i64 6) := by simpa [V.list, V.kind] using (newer_cell f0).1
  have g0 : w5.cell? ⟨b, o + 12, none⟩ = some (.int .i64 2) := by simpa [V.list, V.kind] using (newer_cell g0).1
  have g1 : w5.cell? ⟨b, o + 12 + 1, none⟩ = some (.string ⟨#[110, 111]⟩) := by simpa [V.list, V.text] using (newer_cell g1).1
  have hbx := (Below.refl w5.heap.size w5).alloc (Nat.le_refl _) (.cells #[.int .i64 5, .string ⟨#[]⟩, .int .i64 0, .float .f64 0, .bool false, .slice (some ⟨b, o, none⟩) 3 cap] 25)
  have hb06 := hb05.alloc hb05.size (.cells #[.int .i64 5, .string ⟨#[]⟩, .int .i64 0, .float .f64 0, .bool false, .slice (some ⟨b, o, none⟩) 3 cap] 25)
  have e0 := cell_below hbx _ _ e0
  have e1 := cell_below hbx _ _ e1
  have f0 := cell_below hbx _ _ f0
  have g0 := cell_below hbx _ _ g0
  have g1 := cell_below hbx _ _ g1
  have x0 : (w5.alloc (.cells #[.int .i64 5, .string ⟨#[]⟩, .int .i64 0, .float .f64 0, .bool false, .slice (some ⟨b, o, none⟩) 3 cap] 25)).cell? ⟨w5.heap.size, 0, none⟩ = some (.int .i64 5) := by rw [World.cell?_alloc_new]; rfl
  have x5 : (w5.alloc (.cells #[.int .i64 5, .string ⟨#[]⟩, .int .i64 0, .float .f64 0, .bool false, .slice (some ⟨b, o, none⟩) 3 cap] 25)).cell? ⟨w5.heap.size, 5, none⟩ = some (.slice (some ⟨b, o, none⟩) 3 cap) := by rw [World.cell?_alloc_new]; rfl
  replace hb06 := Lib.hid hb06
  clear hr r1 hb5 hb05 hb04 hbx
  go_upto_region 2 with fail
  simp only [List.append_eq, List.cons_append, List.nil_append]
  generalize (w5.alloc (.cells #[.int .i64 5, .string ⟨#[]⟩, .int .i64 0, .float .f64 0, .bool false, .slice (some ⟨b, o, none⟩) 3 cap] 25)) = w6 at *
  have l0 := World.block_lt_of_cell? _ _ e0
  have l1 := World.block_lt_of_cell? _ _ x0
  trace "A"
  refine wp_region_grow_plain ?_
  repeat (go_big_quiet_step ((go_at_call 9; exact quiet_grow (alive03_any _))))
  refine wpQuiet_nil ?_
  rintro _ ⟨xq, rfl⟩
  trace "B"
  have hbf := hb06.out.trans ((grow_below w6 xq).mono hb06.out.size)
  go_wp2
  go_ret
  exact ⟨rfl, hbf⟩
end Go.Proofs.YtapiinfnedhmoaaDoor
