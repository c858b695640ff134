/- The reader: lists: what is none. -/
import Derived.Test.YtagkgfniihiinaaGreatDoorRdU
namespace Go.Proofs.YtagkgfniihiinaaGreatDoor
open Go.RowKit

set_option maxRecDepth 100000 in
set_option maxHeartbeats 3200000 in
theorem list_no {rp : Rp} {w0 w : World} {g b o n cap at_ many len : Nat} {s : ByteArray} {d kk : Int} (h : RS rp w0 w g b o n cap s at_ many) (hm : many ≤ 1000000) (hl : len ≤ 100000) (hbad : 1000 < many + len ∨ 8 ≤ d ∨ (kk = 14 ∧ (len = 0 ∨ 0 < d))) :
    Calls Tryz.prog 70 #[.pointer (some ⟨g, 0, none⟩), .int .i64 kk, .int .i64 (len : Int), .int .i64 d] w fun e w' => e = stopE 51 ∧ Fr (fun k => k = g) w w' := by
  have hkk : kk = kk := rfl
  obtain ⟨W1, hW1⟩ : ∃ W1, W1 = (w.alloc (.cells #[.int .i64 0, .string ⟨#[]⟩, .int .i64 0, .float .f64 0, .bool false, .slice none 0 0] 26)).alloc (.cells #[.int .i64 kk, .string ⟨#[]⟩, .int .i64 0, .float .f64 0, .bool false, .slice none 0 0] 26) := ⟨_, rfl⟩
  have hT := Two.start w kk ⟨#[]⟩ 0 0 false
  rw [← hW1] at hT
  have h1 := h.grow hT.below
  have c2 := h1.scan.c2
  have fz := h1.scan.blk.frz 2 none
  have e2 : (many : Int) + (len : Int) = ((many + len : Nat) : Int) := by omega
  have hf : Fr (fun k => k = g) w (W1.setCell ⟨g, 2, none⟩ (.int .i64 ((many + len : Nat) : Int))) := Fr.setCell (S := fun k => k = g) (fr_of_below hT.below) (fun _ => rfl) _
  replace hf := Lib.hid hf
  replace hW1 := Lib.hid hW1
  replace hT := Lib.hid hT
  replace h1 := Lib.hid h1
  replace h := Lib.hid h
  replace hbad := Lib.hid hbad
  by_cases q1 : 1000 < many + len
  · have y1 : (1000 : Int) < (many : Int) + (len : Int) := by omega
    clear e2
    go_enter Tryz.func70, Tryz.ntmps70
    go_upto_region 2 with fail
    rw [← hW1.out]
    go_wp2_with fail
    refine (fail_any _).mono ?_
    rintro e w' ⟨rfl, hww⟩
    obtain rfl := hww.symm
    refine ⟨rfl, rfl, ?_⟩
    have := hf.out
    simpa using this
  · have y1 : ¬ (1000 : Int) < (many : Int) + (len : Int) := by omega
    by_cases q2 : 8 ≤ d
    · clear e2
      go_enter Tryz.func70, Tryz.ntmps70
      go_upto_region 2 with fail
      rw [← hW1.out]
      go_wp2_with fail
      refine (fail_any _).mono ?_
      rintro e w' ⟨rfl, hww⟩
      obtain rfl := hww.symm
      refine ⟨rfl, rfl, ?_⟩
      have := hf.out
      simpa using this
    · have q3 : kk = 14 ∧ (len = 0 ∨ 0 < d) := by have := hbad.out; omega
      obtain ⟨rfl, q4⟩ := q3
      by_cases q5 : len = 0
      · subst q5
        clear e2
        go_enter Tryz.func70, Tryz.ntmps70
        go_upto_region 2 with fail
        rw [← hW1.out]
        go_wp2_with fail
        refine (fail_any _).mono ?_
        rintro e w' ⟨rfl, hww⟩
        obtain rfl := hww.symm
        refine ⟨rfl, rfl, ?_⟩
        have := hf.out
        simpa using this
      · have y5 : ((len : Int) == 0) = false := by simp; omega
        have y6 : 0 < d := by omega
        clear e2
        go_enter Tryz.func70, Tryz.ntmps70
        go_upto_region 2 with fail
        rw [← hW1.out]
        go_wp2_with fail
        refine (fail_any _).mono ?_
        rintro e w' ⟨rfl, hww⟩
        obtain rfl := hww.symm
        refine ⟨rfl, rfl, ?_⟩
        have := hf.out
        simpa using this
end Go.Proofs.YtagkgfniihiinaaGreatDoor
