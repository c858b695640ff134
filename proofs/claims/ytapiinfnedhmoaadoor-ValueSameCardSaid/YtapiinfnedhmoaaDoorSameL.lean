/- ValueSame: its walk. -/
import Derived.Test.YtapiinfnedhmoaaDoorSameV
import Derived.Test.YtapiinfnedhmoaaDoorCopyX
import Derived.Test.YtapiinfnedhmoaaDoorAlive03
import Derived.Test.YtapiinfnedhmoaaDoorQuiet
import Derived.Deep.DeepCutAuto
namespace Go.Proofs.YtapiinfnedhmoaaDoor
open Go.RowKit

theorem field_text (s : ByteArray) (w : World) : (Instr.field 25 (.agg #[.int .i64 4, .string s, .int .i64 0, .float .f64 0, .bool false, .slice none 0 0]) 1).run Tryd.prog w = .ok (.string s) w := by kernel_rfl
theorem field_kind (s : ByteArray) (w : World) : (Instr.field 25 (.agg #[.int .i64 4, .string s, .int .i64 0, .float .f64 0, .bool false, .slice none 0 0]) 0).run Tryd.prog w = .ok (.int .i64 4) w := by kernel_rfl
theorem field_int (n : Int) (w : World) : (Instr.field 25 (.agg #[.int .i64 3, .string ⟨#[]⟩, .int .i64 n, .float .f64 0, .bool false, .slice none 0 0]) 2).run Tryd.prog w = .ok (.int .i64 n) w := by kernel_rfl
theorem same03_q {u v : V} {q : Bool} (hq : q = true ↔ u.norm = v.norm) (a : Option Addr) (n cap : Nat) (a' : Option Addr) (n' cap' : Nat) (w : World) (hu : RV w.cell? (cells6 u.kind u.text u.int u.real u.flag a n cap) u) (hv : RV w.cell? (cells6 v.kind v.text v.int v.real v.flag a' n' cap') v) (hc : u.count ≤ 100000000) :
    Calls Tryd.prog 24 #[.agg #[.int .i64 u.kind, .string u.text, .int .i64 u.int, .float .f64 u.real, .bool u.flag, .slice a n cap], .agg #[.int .i64 v.kind, .string v.text, .int .i64 v.int, .float .f64 v.real, .bool v.flag, .slice a' n' cap']] w fun e w' =>
      e = .returned (.bool q) ∧ Below w.heap.size w w' :=
  (same03_any u v a n cap a' n' cap' w hu hv hc).mono fun e w' ⟨p, he, hp, hb⟩ => ⟨by
    have : p = q := by rw [Bool.eq_iff_iff]; exact hp.trans hq.symm
    rw [he, this], hb⟩
theorem vsame_q {u v : V} {q : Bool} (hq : q = true ↔ u.norm = v.norm) (a : Option Addr) (n cap : Nat) (a' : Option Addr) (n' cap' : Nat) (w : World) (hu : RV w.cell? (cells6 u.kind u.text u.int u.real u.flag a n cap) u) (hv : RV w.cell? (cells6 v.kind v.text v.int v.real v.flag a' n' cap') v) (hc : u.count ≤ 100000000) :
    Calls Tryd.prog 23 #[.agg #[.int .i64 u.kind, .string u.text, .int .i64 u.int, .float .f64 u.real, .bool u.flag, .slice a n cap], .agg #[.int .i64 v.kind, .string v.text, .int .i64 v.int, .float .f64 v.real, .bool v.flag, .slice a' n' cap']] w fun e w' =>
      e = .returned (.bool q) ∧ Below w.heap.size w w' :=
  (vsame_any u v a n cap a' n' cap' w hu hv hc).mono fun e w' ⟨p, he, hp, hb⟩ => ⟨by
    have : p = q := by rw [Bool.eq_iff_iff]; exact hp.trans hq.symm
    rw [he, this], hb⟩

theorem push_ne (t : ByteArray) : t ≠ t ++ ⟨#[120]⟩ := fun h => by
  have := congrArg ByteArray.size h
  rw [ByteArray.size_append] at this
  have : (⟨#[120]⟩ : ByteArray).size = 1 := rfl
  omega
/-- Another text in the first place: they are the same no more. -/
theorem vsame_no {u x : V} {rest : List V} (hx : u.list = x :: rest) (a : Option Addr) (n cap : Nat) (a' : Option Addr) (n' cap' : Nat) (w : World) (hu : RV w.cell? (cells6 u.kind u.text u.int u.real u.flag a n cap) u)
    (hv : RV w.cell? (cells6 u.kind u.text u.int u.real u.flag a' n' cap') (.mk u.kind u.text u.int u.real u.flag (.mk x.kind (x.text ++ (⟨#[120]⟩ : ByteArray)) x.int x.real x.flag x.list :: rest))) (hc : u.count ≤ 100000000) :
    Calls Tryd.prog 23 #[.agg #[.int .i64 u.kind, .string u.text, .int .i64 u.int, .float .f64 u.real, .bool u.flag, .slice a n cap], .agg #[.int .i64 u.kind, .string u.text, .int .i64 u.int, .float .f64 u.real, .bool u.flag, .slice a' n' cap']] w fun e w' =>
      e = .returned (.bool false) ∧ Below w.heap.size w w' :=
  vsame_q (u := u) (v := .mk u.kind u.text u.int u.real u.flag (.mk x.kind (x.text ++ (⟨#[120]⟩ : ByteArray)) x.int x.real x.flag x.list :: rest)) (q := false)
    ⟨fun h => (by cases h), fun h => by
      have h1 := ((V.norm_eq _ _).1 h).2.2.2.2.2
      rw [hx] at h1
      simp only [V.list, List.map_cons, List.cons.injEq] at h1
      have h2 := ((V.norm_eq _ _).1 h1.1).2.1
      exact absurd h2 (push_ne x.text)⟩ a n cap a' n' cap' w hu hv hc

set_option maxRecDepth 100000 in
set_option maxHeartbeats 12800000 in
theorem sameL_any (u v : V) (a : Option Addr) (n cap : Nat) (a' : Option Addr) (m cap' : Nat) (s : ByteArray) (w : World) (hu : RV w.cell? (cells6 u.kind u.text u.int u.real u.flag a n cap) u) (hv : RV w.cell? (cells6 v.kind v.text v.int v.real v.flag a' m cap') v)
    (hz : ∀ x ∈ u.list, x.text.size ≤ 140737488355328) (hs : s.size ≤ 140737488355328) :
    Calls Tryd.prog 7 #[.agg #[.int .i64 u.kind, .string u.text, .int .i64 u.int, .float .f64 u.real, .bool u.flag, .slice a n cap], .agg #[.int .i64 v.kind, .string v.text, .int .i64 v.int, .float .f64 v.real, .bool v.flag, .slice a' m cap'], .string s] w fun e w' => e = .returned (.bool true) ∧ Below w.heap.size w w' := by
  obtain ⟨W1, hW1⟩ : ∃ W1, W1 = (w.alloc (.cells #[.int .i64 u.kind, .string u.text, .int .i64 u.int, .float .f64 u.real, .bool u.flag, .slice a n cap] 25)).alloc (.cells #[.int .i64 v.kind, .string v.text, .int .i64 v.int, .float .f64 v.real, .bool v.flag, .slice a' m cap'] 25) := ⟨_, rfl⟩
  have hb0 : Below w.heap.size w W1 := by rw [hW1]; exact ((Below.refl _ _).alloc (Nat.le_refl _) _).alloc (by simp) _
  have hs1 : W1.heap.size = w.heap.size + 2 := by rw [hW1]; simp
  have hBox : ∀ (i q : Nat), i < 2 → ∀ x : Value, (if i = 0 then #[.int .i64 u.kind, .string u.text, .int .i64 u.int, .float .f64 u.real, .bool u.flag, .slice a n cap] else #[.int .i64 v.kind, .string v.text, .int .i64 v.int, .float .f64 v.real, .bool v.flag, .slice a' m cap'])[q]? = some x → W1.cell? ⟨w.heap.size + i, q, none⟩ = some x := fun i q hi x h => by
    rcases i with _ | _ | i
    · rw [hW1, World.cell?_alloc_past _ _ _ (by simp), Nat.add_zero, World.cell?_alloc_new]; exact h
    · have e : w.heap.size + (0 + 1) = (w.alloc (.cells #[.int .i64 u.kind, .string u.text, .int .i64 u.int, .float .f64 u.real, .bool u.flag, .slice a n cap] 25)).heap.size := by simp
      rw [hW1, e, World.cell?_alloc_new]; exact h
    · omega
  have hu1 := hu.mono (cell_below hb0)
  have hv1 := hv.mono (cell_below hb0)
  obtain ⟨_, _, _, _, _, hnu⟩ := hu.len
  replace hnu := Lib.hid hnu
  replace hW1 := Lib.hid hW1
  replace hb0 := Lib.hid hb0
  replace hBox := Lib.hid hBox
  replace hu1 := Lib.hid hu1
  replace hv1 := Lib.hid hv1
  replace hs1 := Lib.hid hs1
  replace hz := Lib.hid hz
  clear hu hv
  go_enter Tryd.func7, Tryd.ntmps7
  go_wp2_with fail
  rw [← hW1.out]
  refine (alive03_any W1).mono ?_
  rintro e w1 ⟨rfl, hb1⟩
  have g0 := (fun i q hi x hx => cell_below hb1 _ _ (hBox.out i q hi x hx)) 0 0 (by omega) (.int .i64 u.kind) rfl
  have g1 := (fun i q hi x hx => cell_below hb1 _ _ (hBox.out i q hi x hx)) 0 1 (by omega) (.string u.text) rfl
  have g2 := (fun i q hi x hx => cell_below hb1 _ _ (hBox.out i q hi x hx)) 0 2 (by omega) (.int .i64 u.int) rfl
  have g3 := (fun i q hi x hx => cell_below hb1 _ _ (hBox.out i q hi x hx)) 0 3 (by omega) (.float .f64 u.real) rfl
  have g4 := (fun i q hi x hx => cell_below hb1 _ _ (hBox.out i q hi x hx)) 0 4 (by omega) (.bool u.flag) rfl
  have g5 := (fun i q hi x hx => cell_below hb1 _ _ (hBox.out i q hi x hx)) 0 5 (by omega) (.slice a n cap) rfl
  have k0 := (fun i q hi x hx => cell_below hb1 _ _ (hBox.out i q hi x hx)) 1 0 (by omega) (.int .i64 v.kind) rfl
  have k1 := (fun i q hi x hx => cell_below hb1 _ _ (hBox.out i q hi x hx)) 1 1 (by omega) (.string v.text) rfl
  have k2 := (fun i q hi x hx => cell_below hb1 _ _ (hBox.out i q hi x hx)) 1 2 (by omega) (.int .i64 v.int) rfl
  have k3 := (fun i q hi x hx => cell_below hb1 _ _ (hBox.out i q hi x hx)) 1 3 (by omega) (.float .f64 v.real) rfl
  have k4 := (fun i q hi x hx => cell_below hb1 _ _ (hBox.out i q hi x hx)) 1 4 (by omega) (.bool v.flag) rfl
  have k5 := (fun i q hi x hx => cell_below hb1 _ _ (hBox.out i q hi x hx)) 1 5 (by omega) (.slice a' m cap') rfl
  simp only [Nat.add_zero] at g0 g1 g2 g3 g4 g5 k0 k1 k2 k3 k4 k5
  go_wp2_with fail
  refine (small_any (v := u) (hu1.out.mono (cell_below hb1))).mono ?_
  rintro e w2 ⟨b, rfl, hb, hb2⟩
  have hb12 := hb1.trans (hb2.mono hb1.size)
  have hbw2 := hb0.out.trans (hb12.mono hb0.out.size)
  clear g0 g1 g2 g3 g4 g5 k0 k1 k2 k3 k4 k5 hb2 hb1
  cases b with
  | false =>
    replace hb := Lib.hid hb
    clear hb12
    go_wp2
    go_ret
    exact ⟨rfl, hbw2⟩
  | true =>
  have hcu3 : u.count ≤ 3000 := (hb rfl).1
  have hcu : u.count ≤ 100000000 := by omega
  have hnb : n ≤ 3000 := by
    have := V.length_le u.list
    have := u.count_list_lt
    have := (hb rfl).1
    have := hnu.out
    omega
  replace hcu := Lib.hid hcu
  replace hcu3 := Lib.hid hcu3
  clear hb
  have g0 := (fun i q hi x hx => cell_below hb12 _ _ (hBox.out i q hi x hx)) 0 0 (by omega) (.int .i64 u.kind) rfl
  have g1 := (fun i q hi x hx => cell_below hb12 _ _ (hBox.out i q hi x hx)) 0 1 (by omega) (.string u.text) rfl
  have g2 := (fun i q hi x hx => cell_below hb12 _ _ (hBox.out i q hi x hx)) 0 2 (by omega) (.int .i64 u.int) rfl
  have g3 := (fun i q hi x hx => cell_below hb12 _ _ (hBox.out i q hi x hx)) 0 3 (by omega) (.float .f64 u.real) rfl
  have g4 := (fun i q hi x hx => cell_below hb12 _ _ (hBox.out i q hi x hx)) 0 4 (by omega) (.bool u.flag) rfl
  have g5 := (fun i q hi x hx => cell_below hb12 _ _ (hBox.out i q hi x hx)) 0 5 (by omega) (.slice a n cap) rfl
  have k0 := (fun i q hi x hx => cell_below hb12 _ _ (hBox.out i q hi x hx)) 1 0 (by omega) (.int .i64 v.kind) rfl
  have k1 := (fun i q hi x hx => cell_below hb12 _ _ (hBox.out i q hi x hx)) 1 1 (by omega) (.string v.text) rfl
  have k2 := (fun i q hi x hx => cell_below hb12 _ _ (hBox.out i q hi x hx)) 1 2 (by omega) (.int .i64 v.int) rfl
  have k3 := (fun i q hi x hx => cell_below hb12 _ _ (hBox.out i q hi x hx)) 1 3 (by omega) (.float .f64 v.real) rfl
  have k4 := (fun i q hi x hx => cell_below hb12 _ _ (hBox.out i q hi x hx)) 1 4 (by omega) (.bool v.flag) rfl
  have k5 := (fun i q hi x hx => cell_below hb12 _ _ (hBox.out i q hi x hx)) 1 5 (by omega) (.slice a' m cap') rfl
  simp only [Nat.add_zero] at g0 g1 g2 g3 g4 g5 k0 k1 k2 k3 k4 k5
  go_wp2_with fail
  refine (small_any (v := v) (hv1.out.mono (cell_below hb12))).mono ?_
  rintro e w3 ⟨b, rfl, hb, hb3⟩
  have hb13 := hb12.trans (hb3.mono hb12.size)
  have hbw3 := hb0.out.trans (hb13.mono hb0.out.size)
  clear g0 g1 g2 g3 g4 g5 k0 k1 k2 k3 k4 k5 hb3 hb12 hbw2
  cases b with
  | false =>
    replace hb := Lib.hid hb
    clear hb13
    go_wp2
    go_ret
    exact ⟨rfl, hbw3⟩
  | true =>
  have hcl : (V.mk 5 ⟨#[]⟩ 0 0 false [u, v]).count ≤ 100000000 := by have := (hb rfl).1; have := hcu3.out; simp only [V.count, V.countL]; omega
  have hcv : v.count ≤ 100000000 := by have := (hb rfl).1; omega
  replace hcv := Lib.hid hcv
  replace hcl := Lib.hid hcl
  clear hb
  have g0 := (fun i q hi x hx => cell_below hb13 _ _ (hBox.out i q hi x hx)) 0 0 (by omega) (.int .i64 u.kind) rfl
  have g1 := (fun i q hi x hx => cell_below hb13 _ _ (hBox.out i q hi x hx)) 0 1 (by omega) (.string u.text) rfl
  have g2 := (fun i q hi x hx => cell_below hb13 _ _ (hBox.out i q hi x hx)) 0 2 (by omega) (.int .i64 u.int) rfl
  have g3 := (fun i q hi x hx => cell_below hb13 _ _ (hBox.out i q hi x hx)) 0 3 (by omega) (.float .f64 u.real) rfl
  have g4 := (fun i q hi x hx => cell_below hb13 _ _ (hBox.out i q hi x hx)) 0 4 (by omega) (.bool u.flag) rfl
  have g5 := (fun i q hi x hx => cell_below hb13 _ _ (hBox.out i q hi x hx)) 0 5 (by omega) (.slice a n cap) rfl
  have k0 := (fun i q hi x hx => cell_below hb13 _ _ (hBox.out i q hi x hx)) 1 0 (by omega) (.int .i64 v.kind) rfl
  have k1 := (fun i q hi x hx => cell_below hb13 _ _ (hBox.out i q hi x hx)) 1 1 (by omega) (.string v.text) rfl
  have k2 := (fun i q hi x hx => cell_below hb13 _ _ (hBox.out i q hi x hx)) 1 2 (by omega) (.int .i64 v.int) rfl
  have k3 := (fun i q hi x hx => cell_below hb13 _ _ (hBox.out i q hi x hx)) 1 3 (by omega) (.float .f64 v.real) rfl
  have k4 := (fun i q hi x hx => cell_below hb13 _ _ (hBox.out i q hi x hx)) 1 4 (by omega) (.bool v.flag) rfl
  have k5 := (fun i q hi x hx => cell_below hb13 _ _ (hBox.out i q hi x hx)) 1 5 (by omega) (.slice a' m cap') rfl
  simp only [Nat.add_zero] at g0 g1 g2 g3 g4 g5 k0 k1 k2 k3 k4 k5
  go_wp2_with fail
  refine (copy_rows u _ _ _ _ _ _ _ _ w3 (hu1.out.mono (cell_below hb13)) hcu.out).mono ?_
  rintro e w4 ⟨a4, c4, css, rfl, hown, hrs, hb4⟩
  have hb14 := hb13.trans (hb4.mono hb13.size)
  have hbw4 := hb0.out.trans (hb14.mono hb0.out.size)
  have hs4 : w.heap.size + 2 ≤ w4.heap.size := by have := hb14.size; rw [hs1.out] at this; exact this
  have hw3 : w.heap.size + 2 ≤ w3.heap.size := by have := hb13.size; rw [hs1.out] at this; exact this
  have hcc := RV.of_row hnu.out hown (hrs.mono nf_newer)
  have hcc := hcc.mono newer_all
  clear g0 g1 g2 g3 g4 g5 k0 k1 k2 k3 k4 k5 hb13 hbw3 hb4
  obtain ⟨W5, hW5⟩ : ∃ W5, W5 = w4.alloc (.cells #[.int .i64 u.kind, .string u.text, .int .i64 u.int, .float .f64 u.real, .bool u.flag, .slice a4 n c4] 25) := ⟨_, rfl⟩
  have hb45 : Below w4.heap.size w4 W5 := by rw [hW5]; exact (Below.refl _ _).alloc (Nat.le_refl _) _
  have hs5 : W5.heap.size = w4.heap.size + 1 := by rw [hW5]; simp
  have hC : ∀ q x, #[.int .i64 u.kind, .string u.text, .int .i64 u.int, .float .f64 u.real, .bool u.flag, .slice a4 n c4][q]? = some x → W5.cell? ⟨w4.heap.size, q, none⟩ = some x := fun q x h => by rw [hW5, World.cell?_alloc_new]; exact h
  have hb15 := hb14.trans (hb45.mono hb14.size)
  have hbw5 := hb0.out.trans (hb15.mono hb0.out.size)
  have g0 := (fun i q hi x hx => cell_below hb14 _ _ (hBox.out i q hi x hx)) 0 0 (by omega) (.int .i64 u.kind) rfl
  have g1 := (fun i q hi x hx => cell_below hb14 _ _ (hBox.out i q hi x hx)) 0 1 (by omega) (.string u.text) rfl
  have g2 := (fun i q hi x hx => cell_below hb14 _ _ (hBox.out i q hi x hx)) 0 2 (by omega) (.int .i64 u.int) rfl
  have g3 := (fun i q hi x hx => cell_below hb14 _ _ (hBox.out i q hi x hx)) 0 3 (by omega) (.float .f64 u.real) rfl
  have g4 := (fun i q hi x hx => cell_below hb14 _ _ (hBox.out i q hi x hx)) 0 4 (by omega) (.bool u.flag) rfl
  have g5 := (fun i q hi x hx => cell_below hb14 _ _ (hBox.out i q hi x hx)) 0 5 (by omega) (.slice a n cap) rfl
  have k0 := (fun i q hi x hx => cell_below hb14 _ _ (hBox.out i q hi x hx)) 1 0 (by omega) (.int .i64 v.kind) rfl
  have k1 := (fun i q hi x hx => cell_below hb14 _ _ (hBox.out i q hi x hx)) 1 1 (by omega) (.string v.text) rfl
  have k2 := (fun i q hi x hx => cell_below hb14 _ _ (hBox.out i q hi x hx)) 1 2 (by omega) (.int .i64 v.int) rfl
  have k3 := (fun i q hi x hx => cell_below hb14 _ _ (hBox.out i q hi x hx)) 1 3 (by omega) (.float .f64 v.real) rfl
  have k4 := (fun i q hi x hx => cell_below hb14 _ _ (hBox.out i q hi x hx)) 1 4 (by omega) (.bool v.flag) rfl
  have k5 := (fun i q hi x hx => cell_below hb14 _ _ (hBox.out i q hi x hx)) 1 5 (by omega) (.slice a' m cap') rfl
  simp only [Nat.add_zero] at g0 g1 g2 g3 g4 g5 k0 k1 k2 k3 k4 k5
  replace hW5 := Lib.hid hW5
  go_wp2_with fail
  rw [← hW5.out]
  clear g0 g1 g2 g3 g4 g5 k0 k1 k2 k3 k4 k5
  have g0 := (fun i q hi x hx => cell_below hb15 _ _ (hBox.out i q hi x hx)) 0 0 (by omega) (.int .i64 u.kind) rfl
  have g1 := (fun i q hi x hx => cell_below hb15 _ _ (hBox.out i q hi x hx)) 0 1 (by omega) (.string u.text) rfl
  have g2 := (fun i q hi x hx => cell_below hb15 _ _ (hBox.out i q hi x hx)) 0 2 (by omega) (.int .i64 u.int) rfl
  have g3 := (fun i q hi x hx => cell_below hb15 _ _ (hBox.out i q hi x hx)) 0 3 (by omega) (.float .f64 u.real) rfl
  have g4 := (fun i q hi x hx => cell_below hb15 _ _ (hBox.out i q hi x hx)) 0 4 (by omega) (.bool u.flag) rfl
  have g5 := (fun i q hi x hx => cell_below hb15 _ _ (hBox.out i q hi x hx)) 0 5 (by omega) (.slice a n cap) rfl
  have k0 := (fun i q hi x hx => cell_below hb15 _ _ (hBox.out i q hi x hx)) 1 0 (by omega) (.int .i64 v.kind) rfl
  have k1 := (fun i q hi x hx => cell_below hb15 _ _ (hBox.out i q hi x hx)) 1 1 (by omega) (.string v.text) rfl
  have k2 := (fun i q hi x hx => cell_below hb15 _ _ (hBox.out i q hi x hx)) 1 2 (by omega) (.int .i64 v.int) rfl
  have k3 := (fun i q hi x hx => cell_below hb15 _ _ (hBox.out i q hi x hx)) 1 3 (by omega) (.float .f64 v.real) rfl
  have k4 := (fun i q hi x hx => cell_below hb15 _ _ (hBox.out i q hi x hx)) 1 4 (by omega) (.bool v.flag) rfl
  have k5 := (fun i q hi x hx => cell_below hb15 _ _ (hBox.out i q hi x hx)) 1 5 (by omega) (.slice a' m cap') rfl
  simp only [Nat.add_zero] at g0 g1 g2 g3 g4 g5 k0 k1 k2 k3 k4 k5
  have c0 := hC 0 _ rfl
  have c1 := hC 1 _ rfl
  have c2 := hC 2 _ rfl
  have c3 := hC 3 _ rfl
  have c4' := hC 4 _ rfl
  have c5 := hC 5 _ rfl
  obtain ⟨q, hq⟩ : ∃ q : Bool, q = true ↔ u.norm = v.norm := by
    by_cases h : u.norm = v.norm
    · exact ⟨true, by simp [h]⟩
    · exact ⟨false, by simp [h]⟩
  have hu5 := hu1.out.mono (cell_below hb15)
  have hv5 := hv1.out.mono (cell_below hb15)
  have hcc5 := hcc.mono (cell_below hb45)
  have z1 : w.heap.size < W5.heap.size := by omega
  have z2 : w.heap.size + 1 < W5.heap.size := by omega
  have z3 : w4.heap.size < W5.heap.size := by omega
  replace hq := Lib.hid hq
  replace hu5 := Lib.hid hu5
  replace hv5 := Lib.hid hv5
  replace hcc5 := Lib.hid hcc5
  replace hs5 := Lib.hid hs5
  replace hC := Lib.hid hC
  clear hcc
  refine wp_region_grow (by kernel_rfl) (by kernel_rfl) ?_
  cases q
  all_goals
    repeat (go_big_quiet_step ((first
      | (go_at_call 23; (with_reducible exact quiet_grow (vsame_q hq.out a n cap a' m cap' _ (hu5.out.mono (cell_below (grow_below _ _))) (hv5.out.mono (cell_below (grow_below _ _))) hcu.out)))
      | (go_at_call 24; (with_reducible exact quiet_grow (same03_q hq.out a n cap a' m cap' _ (hu5.out.mono (cell_below (grow_below _ _))) (hv5.out.mono (cell_below (grow_below _ _))) hcu.out)))
      | (go_at_call 23; (with_reducible exact quiet_grow (vsame_q (show true = true ↔ _ from ⟨fun _ => rfl, fun _ => rfl⟩) a n cap a4 n c4 _ (hu5.out.mono (cell_below (grow_below _ _))) (hcc5.out.mono (cell_below (grow_below _ _))) hcu.out)))
      | (go_at_call 24; (with_reducible exact quiet_grow (same03_q (show true = true ↔ _ from ⟨fun _ => rfl, fun _ => rfl⟩) a n cap a4 n c4 _ (hu5.out.mono (cell_below (grow_below _ _))) (hcc5.out.mono (cell_below (grow_below _ _))) hcu.out))))))
    refine wpQuiet_nil ?_
    rintro _ ⟨xq, rfl⟩
    have hb56 := grow_below W5 xq
    generalize grow W5 xq = w6 at *
    have hb16 := hb15.trans (hb56.mono hb15.size)
    have hbw6 := hb0.out.trans (hb16.mono hb0.out.size)
    have hown6 := owns_fr hown (Fr.of_below (hb45.trans (hb56.mono (by rw [hs5.out]; omega)))) (fun k hk => by have := (owns_block hown k hk).2; omega)
    have hrs6 := hrs.mono (nf_below (hb45.trans (hb56.mono (by rw [hs5.out]; omega))))
    have hu6 := hu1.out.mono (cell_below hb16)
    have hv6 := hv1.out.mono (cell_below hb16)
    have hs6 : w4.heap.size + 1 ≤ w6.heap.size := by have := hb56.size; rw [hs5.out] at this; exact this
    clear g0 g1 g2 g3 g4 g5 k0 k1 k2 k3 k4 k5 c0 c1 c2 c3 c4' c5 hu5 hv5 hcc5 z1 z2 z3
    have g0 := (fun i q hi x hx => cell_below hb16 _ _ (hBox.out i q hi x hx)) 0 0 (by omega) (.int .i64 u.kind) rfl
    have g1 := (fun i q hi x hx => cell_below hb16 _ _ (hBox.out i q hi x hx)) 0 1 (by omega) (.string u.text) rfl
    have g2 := (fun i q hi x hx => cell_below hb16 _ _ (hBox.out i q hi x hx)) 0 2 (by omega) (.int .i64 u.int) rfl
    have g3 := (fun i q hi x hx => cell_below hb16 _ _ (hBox.out i q hi x hx)) 0 3 (by omega) (.float .f64 u.real) rfl
    have g4 := (fun i q hi x hx => cell_below hb16 _ _ (hBox.out i q hi x hx)) 0 4 (by omega) (.bool u.flag) rfl
    have g5 := (fun i q hi x hx => cell_below hb16 _ _ (hBox.out i q hi x hx)) 0 5 (by omega) (.slice a n cap) rfl
    have k0 := (fun i q hi x hx => cell_below hb16 _ _ (hBox.out i q hi x hx)) 1 0 (by omega) (.int .i64 v.kind) rfl
    have k1 := (fun i q hi x hx => cell_below hb16 _ _ (hBox.out i q hi x hx)) 1 1 (by omega) (.string v.text) rfl
    have k2 := (fun i q hi x hx => cell_below hb16 _ _ (hBox.out i q hi x hx)) 1 2 (by omega) (.int .i64 v.int) rfl
    have k3 := (fun i q hi x hx => cell_below hb16 _ _ (hBox.out i q hi x hx)) 1 3 (by omega) (.float .f64 v.real) rfl
    have k4 := (fun i q hi x hx => cell_below hb16 _ _ (hBox.out i q hi x hx)) 1 4 (by omega) (.bool v.flag) rfl
    have k5 := (fun i q hi x hx => cell_below hb16 _ _ (hBox.out i q hi x hx)) 1 5 (by omega) (.slice a' m cap') rfl
    simp only [Nat.add_zero] at g0 g1 g2 g3 g4 g5 k0 k1 k2 k3 k4 k5
    replace hu6 := Lib.hid hu6
    replace hv6 := Lib.hid hv6
    replace hown6 := Lib.hid hown6
    replace hrs6 := Lib.hid hrs6
    have hk4 : ∀ k, (Value.slice a4 n c4).ownBlock = some k → k < w4.heap.size := fun k h => (owns_block hown k h).2
    replace hk4 := Lib.hid hk4
    clear hown hrs
    go_wp2_with fail
    obtain ⟨W6, hW6⟩ : ∃ W6, W6 = w6.alloc (.cells #[.int .i64 u.kind, .string u.text, .int .i64 u.int, .float .f64 u.real, .bool u.flag, .slice a n cap, .int .i64 v.kind, .string v.text, .int .i64 v.int, .float .f64 v.real, .bool v.flag, .slice a' m cap'] 25) := ⟨_, rfl⟩
    rw [← hW6]
    have hal : Below w6.heap.size w6 W6 := by rw [hW6]; exact (Below.refl _ _).alloc (Nat.le_refl _) _
    have hs66 : W6.heap.size = w6.heap.size + 1 := by rw [hW6]; simp
    refine (list_any [u, v] _ 2 2 W6 (rv_row 5 ⟨#[]⟩ 0 0 false _ 2 [u, v] [cells6 u.kind u.text u.int u.real u.flag a n cap, cells6 v.kind v.text v.int v.real v.flag a' m cap'] (((RVs.nil _).snoc (hu6.out.mono (cell_below hal))).snoc (hv6.out.mono (cell_below hal))) (fun q x h => by rw [hW6, World.cell?_alloc_new]; simpa [cells6] using h)) hcl.out).mono ?_
    rintro e w7 ⟨aL, cL, rfl, hrl, hb7, -⟩
    obtain ⟨W8, hW8⟩ : ∃ W8, W8 = w7.alloc (.cells #[.int .i64 5, .string ⟨#[]⟩, .int .i64 0, .float .f64 0, .bool false, .slice aL 2 cL] 25) := ⟨_, rfl⟩
    have hb78 : Below w7.heap.size w7 W8 := by rw [hW8]; exact (Below.refl _ _).alloc (Nat.le_refl _) _
    have hs8 : W8.heap.size = w7.heap.size + 1 := by rw [hW8]; simp
    have hL : ∀ q x, #[.int .i64 5, .string ⟨#[]⟩, .int .i64 0, .float .f64 0, .bool false, .slice aL 2 cL][q]? = some x → W8.cell? ⟨w7.heap.size, q, none⟩ = some x := fun q x h => by rw [hW8, World.cell?_alloc_new]; exact h
    have hb67 : Below w6.heap.size w6 w7 := hal.trans (hb7.mono hal.size)
    have hb68 : Below w6.heap.size w6 W8 := hb67.trans (hb78.mono hb67.size)
    have hb58 : Below W5.heap.size W5 W8 := hb56.trans (hb68.mono hb56.size)
    have hb18 := hb15.trans (hb58.mono hb15.size)
    have hbw8 := hb0.out.trans (hb18.mono hb0.out.size)
    have hown8 := owns_fr hown6.out (Fr.of_below hb68) (fun k hk => by have := (owns_block hown6.out k hk).2; omega)
    have hrs8 := hrs6.out.mono (nf_below hb68)
    have hrl8 := hrl.mono (fun ad x h => cell_below hb78 _ _ (newer_cell h).1)
    have hs67 : w6.heap.size + 1 ≤ w7.heap.size := by have := hb7.size; omega
    have hok8 := fun k hk => (owns_block hown6.out k hk)
    clear g0 g1 g2 g3 g4 g5 k0 k1 k2 k3 k4 k5 hb56 hb16 hbw6 hu6 hv6 hal hb7 hb67 hb78 hb45 hb14 hbw4 hbw5 hcc hown6 hrs6
    replace hW6 := Lib.hid hW6
    replace hW8 := Lib.hid hW8
    replace hrl := Lib.hid hrl
    replace hrl8 := Lib.hid hrl8
    replace hL := Lib.hid hL
    replace hown8 := Lib.hid hown8
    replace hrs8 := Lib.hid hrs8
    replace hs66 := Lib.hid hs66
    replace hs8 := Lib.hid hs8
    replace hok8 := Lib.hid hok8
    go_upto_region 9 with fail
    rw [← hW8.out]
    have c5 : W8.cell? ⟨w4.heap.size, 5, none⟩ = some (.slice a4 n c4) := cell_below hb58 _ _ (hC.out 5 _ rfl)
    by_cases hn0 : n = 0
    · have b9 : decide (0 < n) = false := by simp; omega
      clear hn0
      have g0 := (fun i q hi x hx => (cell_below hb18) _ _ (hBox.out i q hi x hx)) 0 0 (by omega) (.int .i64 u.kind) rfl
      have g1 := (fun i q hi x hx => (cell_below hb18) _ _ (hBox.out i q hi x hx)) 0 1 (by omega) (.string u.text) rfl
      have g2 := (fun i q hi x hx => (cell_below hb18) _ _ (hBox.out i q hi x hx)) 0 2 (by omega) (.int .i64 u.int) rfl
      have g3 := (fun i q hi x hx => (cell_below hb18) _ _ (hBox.out i q hi x hx)) 0 3 (by omega) (.float .f64 u.real) rfl
      have g4 := (fun i q hi x hx => (cell_below hb18) _ _ (hBox.out i q hi x hx)) 0 4 (by omega) (.bool u.flag) rfl
      have g5 := (fun i q hi x hx => (cell_below hb18) _ _ (hBox.out i q hi x hx)) 0 5 (by omega) (.slice a n cap) rfl
      have k0 := (fun i q hi x hx => (cell_below hb18) _ _ (hBox.out i q hi x hx)) 1 0 (by omega) (.int .i64 v.kind) rfl
      have k1 := (fun i q hi x hx => (cell_below hb18) _ _ (hBox.out i q hi x hx)) 1 1 (by omega) (.string v.text) rfl
      have k2 := (fun i q hi x hx => (cell_below hb18) _ _ (hBox.out i q hi x hx)) 1 2 (by omega) (.int .i64 v.int) rfl
      have k3 := (fun i q hi x hx => (cell_below hb18) _ _ (hBox.out i q hi x hx)) 1 3 (by omega) (.float .f64 v.real) rfl
      have k4 := (fun i q hi x hx => (cell_below hb18) _ _ (hBox.out i q hi x hx)) 1 4 (by omega) (.bool v.flag) rfl
      have k5 := (fun i q hi x hx => (cell_below hb18) _ _ (hBox.out i q hi x hx)) 1 5 (by omega) (.slice a' m cap') rfl
      simp only [Nat.add_zero] at g0 g1 g2 g3 g4 g5 k0 k1 k2 k3 k4 k5
      have huL := hu1.out.mono (cell_below hb18)
      have hvL := hv1.out.mono (cell_below hb18)
      obtain ⟨x0, bb, oo, ax, px, hx0, -, hav, hxr, d0, d1, d2, d3, d4, d5⟩ := RV.elem' (v := .mk 5 ⟨#[]⟩ 0 0 false [u, v]) (n := 2) (j := 0) hrl8.out (by omega)
      obtain ⟨x1, bb', oo', ay, py, hx1, -, hav', hyr, e0, e1, e2, e3, e4, e5⟩ := RV.elem' (v := .mk 5 ⟨#[]⟩ 0 0 false [u, v]) (n := 2) (j := 1) hrl8.out (by omega)
      have hx0 : u = x0 := by simpa [V.list] using hx0
      have hx1 : v = x1 := by simpa [V.list] using hx1
      subst hx0
      subst hx1
      rw [hav] at hav'
      simp only [Option.some.injEq, Addr.mk.injEq, and_true] at hav'
      obtain ⟨rfl, rfl⟩ := hav'
      subst hav
      have z1 : w.heap.size < W8.heap.size := World.block_lt_of_cell? _ _ g0
      have z2 : w.heap.size + 1 < W8.heap.size := World.block_lt_of_cell? _ _ k0
      have z3 : bb < W8.heap.size := World.block_lt_of_cell? _ _ d0
      replace huL := Lib.hid huL
      replace hvL := Lib.hid hvL
      replace hxr := Lib.hid hxr
      replace hyr := Lib.hid hyr
      have hyu : (u.norm = u.norm) = True := eq_self _
      have hyv : (v.norm = v.norm) = True := eq_self _
      clear hyu hyv
      have l0 : W8.cell? ⟨w7.heap.size, 0, none⟩ = some (.int .i64 5) := hL.out 0 _ rfl
      have l5 : W8.cell? ⟨w7.heap.size, 5, none⟩ = some (.slice (some ⟨bb, oo, none⟩) 2 cL) := hL.out 5 _ rfl
      have z4 : w7.heap.size < W8.heap.size := World.block_lt_of_cell? _ _ l0
      simp only [Nat.zero_mul, Nat.one_mul, Nat.add_zero] at d0 d1 d2 d3 d4 d5 e0 e1 e2 e3 e4 e5
      have ff1 := field_text s
      have ff2 := field_kind s
      have ff3 := field_int (s.size : Int)
      go_upto_region 13 with fail
      refine wp_region_grow (by kernel_rfl) (by kernel_rfl) ?_
      repeat (go_big_quiet_step ((first
        | (go_at_call 24; (with_reducible exact quiet_grow (same03_q (show true = true ↔ _ from ⟨fun _ => rfl, fun _ => rfl⟩) ax _ px a n cap _ (hxr.out.mono (cell_below (grow_below _ _))) (huL.out.mono (cell_below (grow_below _ _))) hcu.out)))
        | (go_at_call 24; (with_reducible exact quiet_grow (same03_q (show true = true ↔ _ from ⟨fun _ => rfl, fun _ => rfl⟩) ay _ py a' m cap' _ (hyr.out.mono (cell_below (grow_below _ _))) (hvL.out.mono (cell_below (grow_below _ _))) hcv.out)))
        | (go_at_call 25; (with_reducible exact quiet_grow (text_any s _)))
        | (go_at_call 18; (with_reducible exact quiet_grow (int_any _ _))))))
      refine wpQuiet_nil ?_
      rintro _ ⟨xq, rfl⟩
      have hbq := hbw8.trans ((grow_below _ xq).mono hbw8.size)
      clear g0 g1 g2 g3 g4 g5 k0 k1 k2 k3 k4 k5 d0 d1 d2 d3 d4 d5 e0 e1 e2 e3 e4 e5 l0 l5 ff1 ff2 ff3
      go_wp2
      go_ret
      exact ⟨by first | rfl | simp, hbq⟩
    · have b9 : decide ((0 : Int) < (n : Int)) = true := by simp; omega
      have hnp : (0 : Int) < (n : Int) := by omega
      obtain ⟨x, rest, hxr⟩ : ∃ x rest, u.list = x :: rest := by
        have := hnu.out
        cases hl : u.list with
        | nil => rw [hl] at this; simp at this; omega
        | cons x rest => exact ⟨x, rest, rfl⟩
      have hxs := hz.out x (by rw [hxr]; simp)
      obtain ⟨ad, rfl⟩ : ∃ ad, a4 = some ad := by
        cases a4 with
        | some ad => exact ⟨ad, rfl⟩
        | none =>
          have h1 := Reads.of_owns hown8.out
          obtain ⟨b, o, h2, _⟩ := h1.at (j := 0) (by rw [h1.len.2]; omega)
          cases h2
      obtain ⟨q1, q2, q3⟩ := owns_blk hown8.out
      obtain ⟨kb, hkb⟩ : ∃ kb, ad = ⟨kb, 0, none⟩ := ⟨_, q1⟩
      subst hkb
      have t1 := RV.touch hnu.out hown8.out hrs8.out hxr (x.text ++ ⟨#[120]⟩)
      obtain ⟨t01, hrv9⟩ := t1
      have f01 := q3.frz 1 none
      replace hxr := Lib.hid hxr
      replace hrv9 := Lib.hid hrv9
      clear q1
      go_upto_region 11 with fail
      obtain ⟨W9, hW9⟩ : ∃ W9, W9 = W8.setCell ⟨kb, 1, none⟩ (.string (x.text ++ ⟨#[120]⟩)) := ⟨_, rfl⟩
      rw [← hW9]
      have hkb : w3.heap.size + 2 ≤ kb := (owns_block hown8.out kb rfl).1
      have hkb4 : kb < w4.heap.size := hk4.out kb rfl
      have hW13 : W1.heap.size ≤ kb := by have := hs1.out; omega
      have hs67' := hs67
      have hs66' := hs66.out
      have hs8' := hs8.out
      have hb19 : Below W1.heap.size W1 W9 := by rw [hW9]; exact hb18.setCell hW13 _
      have hbw9 : Below w.heap.size w W9 := hb0.out.trans (hb19.mono hb0.out.size)
      have hs9 : W9.heap.size = W8.heap.size := by rw [hW9]; simp
      have hset : ∀ ad u, ad.block ≠ kb → W8.cell? ad = some u → W9.cell? ad = some u := fun ad u hne h => by rw [hW9, cell_set_ne (fun e => hne (by rw [← e]))]; exact h
      have hC9 : ∀ q y, #[.int .i64 u.kind, .string u.text, .int .i64 u.int, .float .f64 u.real, .bool u.flag, .slice (some ⟨kb, 0, none⟩) n c4][q]? = some y → W9.cell? ⟨w4.heap.size, q, none⟩ = some y := fun q y h => hset _ _ (by simp; omega) (cell_below hb58 _ _ (hC.out q y h))
      have hL9 : ∀ q y, #[.int .i64 5, .string ⟨#[]⟩, .int .i64 0, .float .f64 0, .bool false, .slice aL 2 cL][q]? = some y → W9.cell? ⟨w7.heap.size, q, none⟩ = some y := fun q y h => hset _ _ (by simp; omega) (hL.out q y h)
      have hu9 := hu1.out.mono (cell_below hb19)
      have hv9 : RV W9.cell? (cells6 u.kind u.text u.int u.real u.flag (some ⟨kb, 0, none⟩) n c4) (.mk u.kind u.text u.int u.real u.flag (.mk x.kind (x.text ++ (⟨#[120]⟩ : ByteArray)) x.int x.real x.flag x.list :: rest)) := by rw [hW9]; exact hrv9.out
      have hrl9 : RV W9.cell? (cells6 5 ⟨#[]⟩ 0 0 false aL 2 cL) (.mk 5 ⟨#[]⟩ 0 0 false [u, v]) := hrl.out.mono (fun ad y h => by
        obtain ⟨h1, h2⟩ := newer_cell h
        refine hset _ _ (by omega) ?_
        exact cell_below (show Below w7.heap.size w7 W8 by rw [hW8.out]; exact (Below.refl _ _).alloc (Nat.le_refl _) _) _ _ h1)
      clear c5 t01 f01 q2 q3 hs66' hs8' hs67'
      have g0 := (fun i q hi x hx => cell_below hb19 _ _ (hBox.out i q hi x hx)) 0 0 (by omega) (.int .i64 u.kind) rfl
      have g1 := (fun i q hi x hx => cell_below hb19 _ _ (hBox.out i q hi x hx)) 0 1 (by omega) (.string u.text) rfl
      have g2 := (fun i q hi x hx => cell_below hb19 _ _ (hBox.out i q hi x hx)) 0 2 (by omega) (.int .i64 u.int) rfl
      have g3 := (fun i q hi x hx => cell_below hb19 _ _ (hBox.out i q hi x hx)) 0 3 (by omega) (.float .f64 u.real) rfl
      have g4 := (fun i q hi x hx => cell_below hb19 _ _ (hBox.out i q hi x hx)) 0 4 (by omega) (.bool u.flag) rfl
      have g5 := (fun i q hi x hx => cell_below hb19 _ _ (hBox.out i q hi x hx)) 0 5 (by omega) (.slice a n cap) rfl
      have k0 := (fun i q hi x hx => cell_below hb19 _ _ (hBox.out i q hi x hx)) 1 0 (by omega) (.int .i64 v.kind) rfl
      have k1 := (fun i q hi x hx => cell_below hb19 _ _ (hBox.out i q hi x hx)) 1 1 (by omega) (.string v.text) rfl
      have k2 := (fun i q hi x hx => cell_below hb19 _ _ (hBox.out i q hi x hx)) 1 2 (by omega) (.int .i64 v.int) rfl
      have k3 := (fun i q hi x hx => cell_below hb19 _ _ (hBox.out i q hi x hx)) 1 3 (by omega) (.float .f64 v.real) rfl
      have k4 := (fun i q hi x hx => cell_below hb19 _ _ (hBox.out i q hi x hx)) 1 4 (by omega) (.bool v.flag) rfl
      have k5 := (fun i q hi x hx => cell_below hb19 _ _ (hBox.out i q hi x hx)) 1 5 (by omega) (.slice a' m cap') rfl
      simp only [Nat.add_zero] at g0 g1 g2 g3 g4 g5 k0 k1 k2 k3 k4 k5
      have c0 : W9.cell? ⟨w4.heap.size, 0, none⟩ = some (.int .i64 u.kind) := hC9 0 _ rfl
      have c1 : W9.cell? ⟨w4.heap.size, 1, none⟩ = some (.string u.text) := hC9 1 _ rfl
      have c2 : W9.cell? ⟨w4.heap.size, 2, none⟩ = some (.int .i64 u.int) := hC9 2 _ rfl
      have c3 : W9.cell? ⟨w4.heap.size, 3, none⟩ = some (.float .f64 u.real) := hC9 3 _ rfl
      have c4' : W9.cell? ⟨w4.heap.size, 4, none⟩ = some (.bool u.flag) := hC9 4 _ rfl
      have c5 : W9.cell? ⟨w4.heap.size, 5, none⟩ = some (.slice (some ⟨kb, 0, none⟩) n c4) := hC9 5 _ rfl
      replace hW9 := Lib.hid hW9
      replace hset := Lib.hid hset
      replace hC9 := Lib.hid hC9
      replace hL9 := Lib.hid hL9
      replace hu9 := Lib.hid hu9
      replace hv9 := Lib.hid hv9
      replace hrl9 := Lib.hid hrl9
      replace hs9 := Lib.hid hs9
      go_wp2_with fail
      refine (vsame_no hxr.out a n cap _ n c4 _ hu9.out hv9.out hcu.out).mono ?_
      rintro e w10 ⟨rfl, hb10⟩
      clear g0 g1 g2 g3 g4 g5 k0 k1 k2 k3 k4 k5 c0 c1 c2 c3 c4' c5
      have hb1t := hb19.trans (hb10.mono hb19.size)
      have hbwt := hbw9.trans (hb10.mono hbw9.size)
      have hrlt := hrl9.out.mono (cell_below hb10)
      have hLt : ∀ q y, #[.int .i64 5, .string ⟨#[]⟩, .int .i64 0, .float .f64 0, .bool false, .slice aL 2 cL][q]? = some y → w10.cell? ⟨w7.heap.size, q, none⟩ = some y := fun q y h => cell_below hb10 _ _ (hL9.out q y h)
      replace hrlt := Lib.hid hrlt
      replace hLt := Lib.hid hLt
      have g0 := (fun i q hi x hx => (cell_below hb1t) _ _ (hBox.out i q hi x hx)) 0 0 (by omega) (.int .i64 u.kind) rfl
      have g1 := (fun i q hi x hx => (cell_below hb1t) _ _ (hBox.out i q hi x hx)) 0 1 (by omega) (.string u.text) rfl
      have g2 := (fun i q hi x hx => (cell_below hb1t) _ _ (hBox.out i q hi x hx)) 0 2 (by omega) (.int .i64 u.int) rfl
      have g3 := (fun i q hi x hx => (cell_below hb1t) _ _ (hBox.out i q hi x hx)) 0 3 (by omega) (.float .f64 u.real) rfl
      have g4 := (fun i q hi x hx => (cell_below hb1t) _ _ (hBox.out i q hi x hx)) 0 4 (by omega) (.bool u.flag) rfl
      have g5 := (fun i q hi x hx => (cell_below hb1t) _ _ (hBox.out i q hi x hx)) 0 5 (by omega) (.slice a n cap) rfl
      have k0 := (fun i q hi x hx => (cell_below hb1t) _ _ (hBox.out i q hi x hx)) 1 0 (by omega) (.int .i64 v.kind) rfl
      have k1 := (fun i q hi x hx => (cell_below hb1t) _ _ (hBox.out i q hi x hx)) 1 1 (by omega) (.string v.text) rfl
      have k2 := (fun i q hi x hx => (cell_below hb1t) _ _ (hBox.out i q hi x hx)) 1 2 (by omega) (.int .i64 v.int) rfl
      have k3 := (fun i q hi x hx => (cell_below hb1t) _ _ (hBox.out i q hi x hx)) 1 3 (by omega) (.float .f64 v.real) rfl
      have k4 := (fun i q hi x hx => (cell_below hb1t) _ _ (hBox.out i q hi x hx)) 1 4 (by omega) (.bool v.flag) rfl
      have k5 := (fun i q hi x hx => (cell_below hb1t) _ _ (hBox.out i q hi x hx)) 1 5 (by omega) (.slice a' m cap') rfl
      simp only [Nat.add_zero] at g0 g1 g2 g3 g4 g5 k0 k1 k2 k3 k4 k5
      have huL := hu1.out.mono (cell_below hb1t)
      have hvL := hv1.out.mono (cell_below hb1t)
      obtain ⟨x0, bb, oo, ax, px, hx0, -, hav, hxr, d0, d1, d2, d3, d4, d5⟩ := RV.elem' (v := .mk 5 ⟨#[]⟩ 0 0 false [u, v]) (n := 2) (j := 0) hrlt.out (by omega)
      obtain ⟨x1, bb', oo', ay, py, hx1, -, hav', hyr, e0, e1, e2, e3, e4, e5⟩ := RV.elem' (v := .mk 5 ⟨#[]⟩ 0 0 false [u, v]) (n := 2) (j := 1) hrlt.out (by omega)
      have hx0 : u = x0 := by simpa [V.list] using hx0
      have hx1 : v = x1 := by simpa [V.list] using hx1
      subst hx0
      subst hx1
      rw [hav] at hav'
      simp only [Option.some.injEq, Addr.mk.injEq, and_true] at hav'
      obtain ⟨rfl, rfl⟩ := hav'
      subst hav
      have z1 : w.heap.size < w10.heap.size := World.block_lt_of_cell? _ _ g0
      have z2 : w.heap.size + 1 < w10.heap.size := World.block_lt_of_cell? _ _ k0
      have z3 : bb < w10.heap.size := World.block_lt_of_cell? _ _ d0
      replace huL := Lib.hid huL
      replace hvL := Lib.hid hvL
      replace hxr := Lib.hid hxr
      replace hyr := Lib.hid hyr
      have hyu : (u.norm = u.norm) = True := eq_self _
      have hyv : (v.norm = v.norm) = True := eq_self _
      clear hyu hyv
      have l0 : w10.cell? ⟨w7.heap.size, 0, none⟩ = some (.int .i64 5) := hLt.out 0 _ rfl
      have l5 : w10.cell? ⟨w7.heap.size, 5, none⟩ = some (.slice (some ⟨bb, oo, none⟩) 2 cL) := hLt.out 5 _ rfl
      have z4 : w7.heap.size < w10.heap.size := World.block_lt_of_cell? _ _ l0
      simp only [Nat.zero_mul, Nat.one_mul, Nat.add_zero] at d0 d1 d2 d3 d4 d5 e0 e1 e2 e3 e4 e5
      have ff1 := field_text s
      have ff2 := field_kind s
      have ff3 := field_int (s.size : Int)
      go_upto_region 13 with fail
      refine wp_region_grow (by kernel_rfl) (by kernel_rfl) ?_
      repeat (go_big_quiet_step ((first
        | (go_at_call 24; (with_reducible exact quiet_grow (same03_q (show true = true ↔ _ from ⟨fun _ => rfl, fun _ => rfl⟩) ax _ px a n cap _ (hxr.out.mono (cell_below (grow_below _ _))) (huL.out.mono (cell_below (grow_below _ _))) hcu.out)))
        | (go_at_call 24; (with_reducible exact quiet_grow (same03_q (show true = true ↔ _ from ⟨fun _ => rfl, fun _ => rfl⟩) ay _ py a' m cap' _ (hyr.out.mono (cell_below (grow_below _ _))) (hvL.out.mono (cell_below (grow_below _ _))) hcv.out)))
        | (go_at_call 25; (with_reducible exact quiet_grow (text_any s _)))
        | (go_at_call 18; (with_reducible exact quiet_grow (int_any _ _))))))
      refine wpQuiet_nil ?_
      rintro _ ⟨xq, rfl⟩
      have hbq := hbwt.trans ((grow_below _ xq).mono hbwt.size)
      clear g0 g1 g2 g3 g4 g5 k0 k1 k2 k3 k4 k5 d0 d1 d2 d3 d4 d5 e0 e1 e2 e3 e4 e5 l0 l5 ff1 ff2 ff3
      go_wp2
      go_ret
      exact ⟨by first | rfl | simp, hbq⟩
end Go.Proofs.YtapiinfnedhmoaaDoor
