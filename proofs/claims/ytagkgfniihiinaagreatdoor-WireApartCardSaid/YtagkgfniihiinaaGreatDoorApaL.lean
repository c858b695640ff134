/- WireApart: its walk. -/
import Derived.Test.YtagkgfniihiinaaGreatDoorPut
import Derived.Test.YtagkgfniihiinaaGreatDoorWire3
import Derived.Test.YtagkgfniihiinaaGreatDoorAll03
import Derived.Test.YtagkgfniihiinaaGreatDoorSame03
import Derived.Test.YtagkgfniihiinaaGreatDoorRely2
namespace Go.Proofs.YtagkgfniihiinaaGreatDoor
open Go.RowKit Go.Joins

set_option maxRecDepth 100000 in
set_option maxHeartbeats 1600000 in
/-- wire.Bytes in the newer protocol. -/
theorem bytes3_any (v : V) (a : Option Addr) (cap : Nat) (d : Int) (w : World) (hv : RV w.cell? (cells6 v.kind v.text v.int v.real v.flag a v.list.length cap) v) (hf : v.fine d = true) (hr : v.ranged) (hc : v.count ≤ 100000) (hL : LaidV w.heap.size w) :
    Calls Tryz.prog 16 #[.agg #[.int .i64 v.kind, .string v.text, .int .i64 v.int, .float .f64 v.real, .bool v.flag, .slice a v.list.length cap], .int .i64 3] w fun e w' => ∃ b, e = .returned b ∧ Row w.heap.size w' b ⟨v.wire.toArray⟩ ∧ Below w.heap.size w w' := by
  obtain ⟨W1, hW1⟩ : ∃ W1, W1 = w.alloc (.cells #[.int .i64 v.kind, .string v.text, .int .i64 v.int, .float .f64 v.real, .bool v.flag, .slice a v.list.length cap] 26) := ⟨_, rfl⟩
  have hb0 : Below w.heap.size w W1 := by rw [hW1]; exact (Below.refl _ _).alloc (Nat.le_refl _) _
  have hput := put_any v v.kind v.text v.int v.real v.flag a v.list.length cap d w.heap.size W1 (.slice none 0 0) ⟨#[]⟩ ⟨(hv.mono (older_of (Nat.le_refl _))).mono (older_below hb0), hf, hr, hc, hL.below hb0 (Nat.le_refl _), Row.nil _ _, hb0.size, by
    have e : (⟨#[]⟩ : ByteArray).size = 0 := rfl
    omega⟩
  rw [hW1] at hput
  replace hput := Lib.hid hput
  replace hb0 := Lib.hid hb0
  replace hW1 := Lib.hid hW1
  clear hv hL
  go_enter Tryz.func16, Tryz.ntmps16
  go_wp2_with fail
  refine hput.out.mono ?_
  rintro e w' ⟨b, rfl, hR, hb, -⟩
  rw [ba_nil_left] at hR
  rw [← hW1.out] at hb
  have hb2 := hb0.out.trans hb
  clear hb
  replace hR := Lib.hid hR
  replace hb2 := Lib.hid hb2
  go_wp2_with fail
  go_ret
  exact ⟨_, rfl, hR.out, hb2.out⟩
def wcA (i : Nat) (w w' : World) : Prop := match i with | 1 | 4 => Below w.heap.size w w' | _ => w' = w
theorem wire_ba_size (v : V) : (⟨v.wire.toArray⟩ : ByteArray).size = v.wire.length := size_l _
theorem checkZ_fine {v : V} (h : rightB v = true) : v.fine 8 = true ∧ v.count ≤ 1000 := by
  rw [← right_check] at h
  unfold checkZ at h
  split at h
  · assumption
  · exact absurd h (by decide)
namespace R2
set_option maxRecDepth 100000 in
set_option maxHeartbeats 6400000 in
theorem apartL_any (x1 x2 : V) (ad1 : Option Addr) (cap : Nat) (ad2 : Option Addr) (cap' : Nat) (w : World) (hu : RV w.cell? (cells6 x1.kind x1.text x1.int x1.real x1.flag ad1 x1.list.length cap) x1) (hz : RV w.cell? (cells6 x2.kind x2.text x2.int x2.real x2.flag ad2 x2.list.length cap') x2)
    (su : x1.sized) (sz : x2.sized) (ru : x1.ranged) (rz : x2.ranged) (hN : Nums w) (hF : Flo w) :
    Calls Tryz.prog 4 #[.agg #[.int .i64 x1.kind, .string x1.text, .int .i64 x1.int, .float .f64 x1.real, .bool x1.flag, .slice ad1 x1.list.length cap], .agg #[.int .i64 x2.kind, .string x2.text, .int .i64 x2.int, .float .f64 x2.real, .bool x2.flag, .slice ad2 x2.list.length cap']] w
      fun e w' => e = .returned (.bool true) ∧ Below w.heap.size w w' := by
  obtain ⟨W2, hW2⟩ : ∃ W2, W2 = (w.alloc (.cells #[.int .i64 x1.kind, .string x1.text, .int .i64 x1.int, .float .f64 x1.real, .bool x1.flag, .slice ad1 x1.list.length cap] 26)).alloc (.cells #[.int .i64 x2.kind, .string x2.text, .int .i64 x2.int, .float .f64 x2.real, .bool x2.flag, .slice ad2 x2.list.length cap'] 26) := ⟨_, rfl⟩
  have hb0 : Below w.heap.size w W2 := by rw [hW2]; exact ((Below.refl _ _).alloc (Nat.le_refl _) _).alloc (by simp) _
  obtain ⟨bu, ebu⟩ : ∃ bu, bu = w.heap.size := ⟨_, rfl⟩
  obtain ⟨bz, ebz⟩ : ∃ bz, bz = bu + 1 := ⟨_, rfl⟩
  have hru : W2.rangeAt bu 0 [.int .i64 x1.kind, .string x1.text, .int .i64 x1.int, .float .f64 x1.real, .bool x1.flag, .slice ad1 x1.list.length cap] := by
    rw [hW2, ebu]; intro q x hq
    rw [Nat.zero_add, World.cell?_alloc_past _ _ _ (by simp), World.cell?_alloc_new]; simpa using hq
  have hrz : W2.rangeAt bz 0 [.int .i64 x2.kind, .string x2.text, .int .i64 x2.int, .float .f64 x2.real, .bool x2.flag, .slice ad2 x2.list.length cap'] := by
    rw [hW2, ebz, ebu]; intro q x hq
    rw [Nat.zero_add, show w.heap.size + 1 = (w.alloc (.cells #[.int .i64 x1.kind, .string x1.text, .int .i64 x1.int, .float .f64 x1.real, .bool x1.flag, .slice ad1 x1.list.length cap] 26)).heap.size by simp, World.cell?_alloc_new]; simpa using hq
  replace hu := hu.mono (cell_below hb0)
  replace hz := hz.mono (cell_below hb0)
  have hL : LaidV W2.heap.size W2 := ((LaidV.of hN hF).below hb0 (Nat.le_refl _)).mono hb0.size
  have hal := alive04_any W2 hL.nums
  replace hu := Lib.hid hu
  replace hz := Lib.hid hz
  replace hru := Lib.hid hru
  replace hrz := Lib.hid hrz
  replace hL := Lib.hid hL
  replace hb0 := Lib.hid hb0
  replace hW2 := Lib.hid hW2
  replace hal := Lib.hid hal
  replace ru := Lib.hid ru
  replace rz := Lib.hid rz
  replace su := Lib.hid su
  replace sz := Lib.hid sz
  clear hN hF
  go_enter Tryz.func4, Tryz.ntmps4
  go_wp2_with fail
  rw [← hW2.out, ← ebu, ← ebz]
  replace ebu := Lib.hid ebu
  replace ebz := Lib.hid ebz
  refine hal.out.mono ?_
  rintro e w1 ⟨rfl, hb1⟩
  have p01 : _ := range_below hb1 hru.out 0 (.int .i64 x1.kind) rfl
  have p11 : _ := range_below hb1 hru.out 1 (.string x1.text) rfl
  have p21 : _ := range_below hb1 hru.out 2 (.int .i64 x1.int) rfl
  have p31 : _ := range_below hb1 hru.out 3 (.float .f64 x1.real) rfl
  have p41 : _ := range_below hb1 hru.out 4 (.bool x1.flag) rfl
  have p51 : _ := range_below hb1 hru.out 5 (.slice ad1 x1.list.length cap) rfl
  have r01 : _ := range_below hb1 hrz.out 0 (.int .i64 x2.kind) rfl
  have r11 : _ := range_below hb1 hrz.out 1 (.string x2.text) rfl
  have r21 : _ := range_below hb1 hrz.out 2 (.int .i64 x2.int) rfl
  have r31 : _ := range_below hb1 hrz.out 3 (.float .f64 x2.real) rfl
  have r41 : _ := range_below hb1 hrz.out 4 (.bool x2.flag) rfl
  have r51 : _ := range_below hb1 hrz.out 5 (.slice ad2 x2.list.length cap') rfl
  rw [Nat.zero_add] at p01 p11 p21 p31 p41 p51 r01 r11 r21 r31 r41 r51
  have hu1 := hu.out.mono (cell_below hb1)
  have hz1 := hz.out.mono (cell_below hb1)
  replace hu1 := Lib.hid hu1
  replace hz1 := Lib.hid hz1
  go_wp2_with fail
  refine (small_any hu1.out).mono ?_
  rintro e w2 ⟨b1, rfl, k1, hb2⟩
  replace hb2 := hb1.trans (hb2.mono hb1.size)
  cases b1 with
  | false =>
    go_wp2_with fail
    go_ret
    exact ⟨rfl, hb0.out.trans (hb2.mono hb0.out.size)⟩
  | true =>
  have cu := (k1 rfl).1
  clear k1 hb1 hu1 hz1
  clear p01 p11 p21 p31 p41 p51 r01 r11 r21 r31 r41 r51
  have p02 : _ := range_below hb2 hru.out 0 (.int .i64 x1.kind) rfl
  have p12 : _ := range_below hb2 hru.out 1 (.string x1.text) rfl
  have p22 : _ := range_below hb2 hru.out 2 (.int .i64 x1.int) rfl
  have p32 : _ := range_below hb2 hru.out 3 (.float .f64 x1.real) rfl
  have p42 : _ := range_below hb2 hru.out 4 (.bool x1.flag) rfl
  have p52 : _ := range_below hb2 hru.out 5 (.slice ad1 x1.list.length cap) rfl
  have r02 : _ := range_below hb2 hrz.out 0 (.int .i64 x2.kind) rfl
  have r12 : _ := range_below hb2 hrz.out 1 (.string x2.text) rfl
  have r22 : _ := range_below hb2 hrz.out 2 (.int .i64 x2.int) rfl
  have r32 : _ := range_below hb2 hrz.out 3 (.float .f64 x2.real) rfl
  have r42 : _ := range_below hb2 hrz.out 4 (.bool x2.flag) rfl
  have r52 : _ := range_below hb2 hrz.out 5 (.slice ad2 x2.list.length cap') rfl
  rw [Nat.zero_add] at p02 p12 p22 p32 p42 p52 r02 r12 r22 r32 r42 r52
  have hu2 := hu.out.mono (cell_below hb2)
  have hz2 := hz.out.mono (cell_below hb2)
  replace hu2 := Lib.hid hu2
  replace hz2 := Lib.hid hz2
  go_wp2_with fail
  refine (small_any hz2.out).mono ?_
  rintro e w3 ⟨b1, rfl, k1, hb3⟩
  replace hb3 := hb2.trans (hb3.mono hb2.size)
  cases b1 with
  | false =>
    go_wp2_with fail
    go_ret
    exact ⟨rfl, hb0.out.trans (hb3.mono hb0.out.size)⟩
  | true =>
  have cz := (k1 rfl).1
  clear k1 hb2 hu2 hz2
  clear p02 p12 p22 p32 p42 p52 r02 r12 r22 r32 r42 r52
  have p03 : _ := range_below hb3 hru.out 0 (.int .i64 x1.kind) rfl
  have p13 : _ := range_below hb3 hru.out 1 (.string x1.text) rfl
  have p23 : _ := range_below hb3 hru.out 2 (.int .i64 x1.int) rfl
  have p33 : _ := range_below hb3 hru.out 3 (.float .f64 x1.real) rfl
  have p43 : _ := range_below hb3 hru.out 4 (.bool x1.flag) rfl
  have p53 : _ := range_below hb3 hru.out 5 (.slice ad1 x1.list.length cap) rfl
  have r03 : _ := range_below hb3 hrz.out 0 (.int .i64 x2.kind) rfl
  have r13 : _ := range_below hb3 hrz.out 1 (.string x2.text) rfl
  have r23 : _ := range_below hb3 hrz.out 2 (.int .i64 x2.int) rfl
  have r33 : _ := range_below hb3 hrz.out 3 (.float .f64 x2.real) rfl
  have r43 : _ := range_below hb3 hrz.out 4 (.bool x2.flag) rfl
  have r53 : _ := range_below hb3 hrz.out 5 (.slice ad2 x2.list.length cap') rfl
  rw [Nat.zero_add] at p03 p13 p23 p33 p43 p53 r03 r13 r23 r33 r43 r53
  have hu3 := hu.out.mono (cell_below hb3)
  have hz3 := hz.out.mono (cell_below hb3)
  replace hu3 := Lib.hid hu3
  replace hz3 := Lib.hid hz3
  go_wp2_with fail
  refine (rright_any x1 ad1 cap w3 hu3.out su.out (by omega)).mono ?_
  rintro e w4 ⟨rfl, hb4⟩
  replace hb4 := hb3.trans (hb4.mono hb3.size)
  obtain ⟨r1, hr1⟩ : ∃ r1, r1 = rightB x1 := ⟨_, rfl⟩
  rw [← hr1]
  cases r1 with
  | false =>
    go_wp2_with fail
    go_ret
    exact ⟨rfl, hb0.out.trans (hb4.mono hb0.out.size)⟩
  | true =>
  have fu := checkZ_fine hr1.symm
  clear hr1 hb3 hu3 hz3
  clear p03 p13 p23 p33 p43 p53 r03 r13 r23 r33 r43 r53
  replace fu := Lib.hid fu
  have p04 : _ := range_below hb4 hru.out 0 (.int .i64 x1.kind) rfl
  have p14 : _ := range_below hb4 hru.out 1 (.string x1.text) rfl
  have p24 : _ := range_below hb4 hru.out 2 (.int .i64 x1.int) rfl
  have p34 : _ := range_below hb4 hru.out 3 (.float .f64 x1.real) rfl
  have p44 : _ := range_below hb4 hru.out 4 (.bool x1.flag) rfl
  have p54 : _ := range_below hb4 hru.out 5 (.slice ad1 x1.list.length cap) rfl
  have r04 : _ := range_below hb4 hrz.out 0 (.int .i64 x2.kind) rfl
  have r14 : _ := range_below hb4 hrz.out 1 (.string x2.text) rfl
  have r24 : _ := range_below hb4 hrz.out 2 (.int .i64 x2.int) rfl
  have r34 : _ := range_below hb4 hrz.out 3 (.float .f64 x2.real) rfl
  have r44 : _ := range_below hb4 hrz.out 4 (.bool x2.flag) rfl
  have r54 : _ := range_below hb4 hrz.out 5 (.slice ad2 x2.list.length cap') rfl
  rw [Nat.zero_add] at p04 p14 p24 p34 p44 p54 r04 r14 r24 r34 r44 r54
  have hu4 := hu.out.mono (cell_below hb4)
  have hz4 := hz.out.mono (cell_below hb4)
  replace hu4 := Lib.hid hu4
  replace hz4 := Lib.hid hz4
  go_wp2_with fail
  refine (rright_any x2 ad2 cap' w4 hz4.out sz.out (by omega)).mono ?_
  rintro e W ⟨rfl, hb5⟩
  replace hb5 := hb4.trans (hb5.mono hb4.size)
  obtain ⟨r1, hr1⟩ : ∃ r1, r1 = rightB x2 := ⟨_, rfl⟩
  rw [← hr1]
  cases r1 with
  | false =>
    go_wp2_with fail
    go_ret
    exact ⟨rfl, hb0.out.trans (hb5.mono hb0.out.size)⟩
  | true =>
  have fz := checkZ_fine hr1.symm
  clear hr1 hb4 hu4 hz4
  clear p04 p14 p24 p34 p44 p54 r04 r14 r24 r34 r44 r54
  replace fz := Lib.hid fz
  have hru := range_below hb5 hru.out
  have hrz := range_below hb5 hrz.out
  have huW := hu.out.mono (cell_below hb5)
  have hzW := hz.out.mono (cell_below hb5)
  have hLW := (hL.out.below hb5 (Nat.le_refl _)).mono hb5.size
  have hpu : 0 < (⟨x1.wire.toArray⟩ : ByteArray).size := by
    rw [wire_ba_size]; have := (wire_len x1 8 fu.out.1 ru.out (by omega)).1; omega
  have hpz : 0 < (⟨x2.wire.toArray⟩ : ByteArray).size := by
    rw [wire_ba_size]; have := (wire_len x2 8 fz.out.1 rz.out (by omega)).1; omega
  have hbu : ∀ wx, Below W.heap.size W wx → Calls Tryz.prog 16 #[.agg #[.int .i64 x1.kind, .string x1.text, .int .i64 x1.int, .float .f64 x1.real, .bool x1.flag, .slice ad1 x1.list.length cap], .int .i64 3] wx fun e w' => ∃ v, e = .returned v ∧ Below W.heap.size W w' ∧ Below wx.heap.size wx w' ∧ Row W.heap.size w' v ⟨x1.wire.toArray⟩ ∧ Below W.heap.size W w' := fun wx hI =>
    (bytes3_any x1 ad1 cap 8 wx (huW.mono (cell_below hI)) fu.out.1 ru.out (by omega) ((hLW.below hI (Nat.le_refl _)).mono hI.size)).mono fun e w' ⟨b, he, hR, hb⟩ => ⟨b, he, hI.trans (hb.mono hI.size), hb, hR.mono hI.size, hI.trans (hb.mono hI.size)⟩
  have hbz : ∀ wx, Below W.heap.size W wx → Calls Tryz.prog 16 #[.agg #[.int .i64 x2.kind, .string x2.text, .int .i64 x2.int, .float .f64 x2.real, .bool x2.flag, .slice ad2 x2.list.length cap'], .int .i64 3] wx fun e w' => ∃ v, e = .returned v ∧ Below W.heap.size W w' ∧ Below wx.heap.size wx w' ∧ Row W.heap.size w' v ⟨x2.wire.toArray⟩ ∧ Below W.heap.size W w' := fun wx hI =>
    (bytes3_any x2 ad2 cap' 8 wx (hzW.mono (cell_below hI)) fz.out.1 rz.out (by omega) ((hLW.below hI (Nat.le_refl _)).mono hI.size)).mono fun e w' ⟨b, he, hR, hb⟩ => ⟨b, he, hI.trans (hb.mono hI.size), hb, hR.mono hI.size, hI.trans (hb.mono hI.size)⟩
  have hwb := wire_begins fu.out.1 fz.out.1 ru.out rz.out
  replace hbu := Lib.hid hbu
  replace hbz := Lib.hid hbz
  replace hwb := Lib.hid hwb
  replace huW := Lib.hid huW
  replace hzW := Lib.hid hzW
  replace hru := Lib.hid hru
  replace hrz := Lib.hid hrz
  clear hLW
  go_wp2_with fail
  have hbu := hbu.out
  have hbz := hbz.out
  have hru := hru.out
  have hrz := hrz.out
  refine wp_region_rely (l := [_, _, _, _, _, _, _, _]) (Below W.heap.size W) (Below W.heap.size W) wcA (fun kG_ => ([fun v _ => v = .agg #[.int .i64 x1.kind, .string x1.text, .int .i64 x1.int, .float .f64 x1.real, .bool x1.flag, .slice ad1 x1.list.length cap], fun v w => Row W.heap.size w v ⟨x1.wire.toArray⟩ ∧ Below W.heap.size W w, fun v _ => v = .string ⟨x1.wire.toArray⟩, fun v _ => v = .agg #[.int .i64 x2.kind, .string x2.text, .int .i64 x2.int, .float .f64 x2.real, .bool x2.flag, .slice ad2 x2.list.length cap'], fun v w => Row W.heap.size w v ⟨x2.wire.toArray⟩ ∧ Below W.heap.size W w, fun v _ => v = .string ⟨x2.wire.toArray⟩, fun v _ => v = .string ⟨x1.wire.toArray⟩, fun v _ => v = .string ⟨x2.wire.toArray⟩] : List (Value → World → Prop)).getD kG_ (fun _ _ => True)) (eats []) (isIn [7]) (by kernel_rfl) (by kernel_rfl) (by kernel_rfl) ((Below.refl _ _).drew) ((Below.refl _ _).drew) ?_ ?_ ?_ ?_
  · intro i kG_ u w w' hne hE hg hr
    rcases kG_ with _ | _ | _ | _ | _ | _ | _ | _ | kG_
    · exact hg
    · replace hg : (fun (v : Value) (w : World) => Row W.heap.size w v ⟨x1.wire.toArray⟩ ∧ Below W.heap.size W w) u w := hg
      show (fun (v : Value) (w : World) => Row W.heap.size w v ⟨x1.wire.toArray⟩ ∧ Below W.heap.size W w) u w'
      dsimp only at hg ⊢
      replace hE : exB _ _ i 1 = false := hE
      replace hne : 1 ≠ i := hne
      unfold wcA at hr
      split at hr
      all_goals first
        | exact absurd rfl hne
        | exact absurd (hE.symm.trans (by decide +kernel : exB _ _ _ _ = true)) (by decide)
        | (subst hr; exact hg)
        | ((obtain ⟨g1, g2⟩ := hg; exact ⟨g1.below hr (Nat.le_refl _), g2.trans (hr.mono g2.size)⟩))
    · exact hg
    · exact hg
    · replace hg : (fun (v : Value) (w : World) => Row W.heap.size w v ⟨x2.wire.toArray⟩ ∧ Below W.heap.size W w) u w := hg
      show (fun (v : Value) (w : World) => Row W.heap.size w v ⟨x2.wire.toArray⟩ ∧ Below W.heap.size W w) u w'
      dsimp only at hg ⊢
      replace hE : exB _ _ i 4 = false := hE
      replace hne : 4 ≠ i := hne
      unfold wcA at hr
      split at hr
      all_goals first
        | exact absurd rfl hne
        | exact absurd (hE.symm.trans (by decide +kernel : exB _ _ _ _ = true)) (by decide)
        | (subst hr; exact hg)
        | ((obtain ⟨g1, g2⟩ := hg; exact ⟨g1.below hr (Nat.le_refl _), g2.trans (hr.mono g2.size)⟩))
    · exact hg
    · exact hg
    · exact hg
    · trivial
  · intro i w w' hF hI hr
    unfold wcA at hr
    split at hr
    · exact hI.trans (hr.mono hI.size)
    · exact hI.trans (hr.mono hI.size)
    · subst hr; exact hI
  · refine ⟨?_, ?_, ?_, ?_, ?_, ?_, ?_, ?_, trivial⟩
    · refine VC.plain rfl fun a wx hf => ?_
      have s2 := hf.old 2 (by first | rfl | kernel_rfl)
      have q2 := evalQ s2
      have hI := hf.start (by kernel_rfl)
      exact gives_load_mid rfl s2 (range_below hI hru) Tryz.underlying26 rfl infoVal ⟨hf.c, rfl, rfl⟩
    · refine VC.plain rfl fun a wx hf => ?_
      obtain ⟨v28, g28, s28⟩ := hf.got 0 (by kernel_rfl) (by intro j hj; simp [eats] at hj) rfl rfl
      replace s28 := s28.trans (show v28 = .agg #[.int .i64 x1.kind, .string x1.text, .int .i64 x1.int, .float .f64 x1.real, .bool x1.flag, .slice ad1 x1.list.length cap] from g28)
      clear g28
      have q28 := evalQ s28
      have hI := hf.start (by kernel_rfl)
      exact gives_call (f := 16) (args := #[.agg #[.int .i64 x1.kind, .string x1.text, .int .i64 x1.int, .float .f64 x1.real, .bool x1.flag, .slice ad1 x1.list.length cap], .int .i64 3]) (by simp [go_sem, q28]) (hbu wx hI)
    · refine VC.plain rfl fun a wx hf => ?_
      obtain ⟨v29, g29, s29⟩ := hf.got 1 (by kernel_rfl) (by intro j hj; simp [eats] at hj) rfl rfl
      have q29 := evalQ s29
      replace g29 : (fun (v : Value) (w : World) => Row W.heap.size w v ⟨x1.wire.toArray⟩ ∧ Below W.heap.size W w) v29 wx := g29
      dsimp only at g29
      have hI := hf.start (by kernel_rfl)
      exact gives_value (by simp [go_sem, q29, g29.1.back hpu]) ⟨hf.c, rfl, rfl⟩
    · refine VC.plain rfl fun a wx hf => ?_
      have s3 := hf.old 3 (by first | rfl | kernel_rfl)
      have q3 := evalQ s3
      have hI := hf.start (by kernel_rfl)
      exact gives_load_mid rfl s3 (range_below hI hrz) Tryz.underlying26 rfl infoVal ⟨hf.c, rfl, rfl⟩
    · refine VC.plain rfl fun a wx hf => ?_
      obtain ⟨v31, g31, s31⟩ := hf.got 3 (by kernel_rfl) (by intro j hj; simp [eats] at hj) rfl rfl
      replace s31 := s31.trans (show v31 = .agg #[.int .i64 x2.kind, .string x2.text, .int .i64 x2.int, .float .f64 x2.real, .bool x2.flag, .slice ad2 x2.list.length cap'] from g31)
      clear g31
      have q31 := evalQ s31
      have hI := hf.start (by kernel_rfl)
      exact gives_call (f := 16) (args := #[.agg #[.int .i64 x2.kind, .string x2.text, .int .i64 x2.int, .float .f64 x2.real, .bool x2.flag, .slice ad2 x2.list.length cap'], .int .i64 3]) (by simp [go_sem, q31]) (hbz wx hI)
    · refine VC.plain rfl fun a wx hf => ?_
      obtain ⟨v32, g32, s32⟩ := hf.got 4 (by kernel_rfl) (by intro j hj; simp [eats] at hj) rfl rfl
      have q32 := evalQ s32
      replace g32 : (fun (v : Value) (w : World) => Row W.heap.size w v ⟨x2.wire.toArray⟩ ∧ Below W.heap.size W w) v32 wx := g32
      dsimp only at g32
      have hI := hf.start (by kernel_rfl)
      exact gives_value (by simp [go_sem, q32, g32.1.back hpz]) ⟨hf.c, rfl, rfl⟩
    · refine VC.plain rfl fun a wx hf => ?_
      obtain ⟨v30, g30, s30⟩ := hf.got 2 (by kernel_rfl) (by intro j hj; simp [eats] at hj) rfl rfl
      replace s30 := s30.trans (show v30 = .string ⟨x1.wire.toArray⟩ from g30)
      clear g30
      have q30 := evalQ s30
      have hI := hf.start (by kernel_rfl)
      exact gives_value (by simp [go_sem, q30]) ⟨hf.c, rfl, rfl⟩
    · refine VC.plain rfl fun a wx hf => ?_
      obtain ⟨v33, g33, s33⟩ := hf.got 5 (by kernel_rfl) (by intro j hj; simp [eats] at hj) rfl rfl
      replace s33 := s33.trans (show v33 = .string ⟨x2.wire.toArray⟩ from g33)
      clear g33
      have q33 := evalQ s33
      have hI := hf.start (by kernel_rfl)
      exact gives_value (by simp [go_sem, q33]) ⟨hf.c, rfl, rfl⟩
  · intro vs w9 hb9 hG
    have n6 : vs 6 = .string ⟨x1.wire.toArray⟩ := hG 6 (by decide) (by decide)
    have n7 : vs 7 = .string ⟨x2.wire.toArray⟩ := hG 7 (by decide) (by decide)
    have hbf := hb5.trans (hb9.mono hb5.size)
    replace hru := Lib.hid hru
    replace hrz := Lib.hid hrz
    replace hu := huW
    replace hz := hzW
    have p09 : _ := range_below hb9 hru.out 0 (.int .i64 x1.kind) rfl
    have p19 : _ := range_below hb9 hru.out 1 (.string x1.text) rfl
    have p29 : _ := range_below hb9 hru.out 2 (.int .i64 x1.int) rfl
    have p39 : _ := range_below hb9 hru.out 3 (.float .f64 x1.real) rfl
    have p49 : _ := range_below hb9 hru.out 4 (.bool x1.flag) rfl
    have p59 : _ := range_below hb9 hru.out 5 (.slice ad1 x1.list.length cap) rfl
    have r09 : _ := range_below hb9 hrz.out 0 (.int .i64 x2.kind) rfl
    have r19 : _ := range_below hb9 hrz.out 1 (.string x2.text) rfl
    have r29 : _ := range_below hb9 hrz.out 2 (.int .i64 x2.int) rfl
    have r39 : _ := range_below hb9 hrz.out 3 (.float .f64 x2.real) rfl
    have r49 : _ := range_below hb9 hrz.out 4 (.bool x2.flag) rfl
    have r59 : _ := range_below hb9 hrz.out 5 (.slice ad2 x2.list.length cap') rfl
    rw [Nat.zero_add] at p09 p19 p29 p39 p49 p59 r09 r19 r29 r39 r49 r59
    have hu9 := hu.out.mono (cell_below hb9)
    have hz9 := hz.out.mono (cell_below hb9)
    replace hu9 := Lib.hid hu9
    replace hz9 := Lib.hid hz9
    have hwu := wire_ba_size x1
    have hwz := wire_ba_size x2
    have htx : (⟨x1.wire.toArray⟩ : ByteArray).data.toList = x1.wire := rfl
    have hty : (⟨x2.wire.toArray⟩ : ByteArray).data.toList = x2.wire := rfl
    clear hbu hbz hru hrz hG hb9
    simp only [putFrom, Act.put, List.setIfInBounds_toArray, List.set_cons_zero, List.set_cons_succ, n6, n7]
    clear n6 n7
    generalize (⟨x1.wire.toArray⟩ : ByteArray) = X at *
    generalize (⟨x2.wire.toArray⟩ : ByteArray) = Y at *
    replace hwu := Lib.hid hwu
    replace hwz := Lib.hid hwz
    replace htx := Lib.hid htx
    replace hty := Lib.hid hty
    by_cases hn : x1.norm = x2.norm
    · have hXY : Y = X := by
        have h1 := wire_norm x1 x2 ru.out rz.out hn
        exact ByteArray.ext (Array.toList_inj.1 (hty.out.trans (h1.symm.trans htx.out.symm)))
      subst hXY
      have hex : Y.extract 0 Y.size = Y := by simp
      have hee : (Y.toList == Y.toList) = true := by simp
      go_wp2_with fail
      refine (same03_any x1 x2 ad1 x1.list.length cap ad2 x2.list.length cap' _ hu9.out hz9.out (by omega)).mono ?_
      rintro e w6 ⟨q, rfl, hq, hb6⟩
      obtain rfl : q = true := hq.2 hn
      have hbl := hbf.trans (hb6.mono hbf.size)
      clear hq hb6
      go_wp2
      go_ret
      exact ⟨rfl, hb0.out.trans (hbl.mono hb0.out.size)⟩
    · by_cases hl : X.size ≤ Y.size
      · have hli : (X.size : Int) ≤ (Y.size : Int) := by omega
        have hee : ((Y.extract 0 X.size).toList == X.toList) = false := by
          rw [beq_eq_false_iff_ne]
          intro e
          refine hn (hwb.out.1 ⟨x2.wire.drop x1.wire.length, ?_⟩)
          rw [ByteArray.toList_eq, ByteArray.toList_eq, ByteArray.data_extract, Array.toList_extract, List.extract_eq_take_drop, Nat.sub_zero, List.drop_zero, htx.out, hty.out, hwu.out] at e
          conv => lhs; rw [← List.take_append_drop x1.wire.length x2.wire]
          rw [e]
        go_wp2_with fail
        refine (same03_any x1 x2 ad1 x1.list.length cap ad2 x2.list.length cap' _ hu9.out hz9.out (by omega)).mono ?_
        rintro e w6 ⟨q, rfl, hq, hb6⟩
        have hqf : q = false := by
          cases q with
          | false => rfl
          | true => exact absurd (hq.1 rfl) hn
        subst hqf
        have hbl := hbf.trans (hb6.mono hbf.size)
        clear hq hb6
        go_wp2
        go_ret
        exact ⟨rfl, hb0.out.trans (hbl.mono hb0.out.size)⟩
      · have hli : ¬ (X.size : Int) ≤ (Y.size : Int) := by omega
        go_wp2_with fail
        refine (same03_any x1 x2 ad1 x1.list.length cap ad2 x2.list.length cap' _ hu9.out hz9.out (by omega)).mono ?_
        rintro e w6 ⟨q, rfl, hq, hb6⟩
        have hqf : q = false := by
          cases q with
          | false => rfl
          | true => exact absurd (hq.1 rfl) hn
        subst hqf
        have hbl := hbf.trans (hb6.mono hbf.size)
        clear hq hb6
        go_wp2
        go_ret
        exact ⟨rfl, hb0.out.trans (hbl.mono hb0.out.size)⟩
end R2
end Go.Proofs.YtagkgfniihiinaaGreatDoor
