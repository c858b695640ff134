/- item.Drop, item.Append. -/
import Derived.Test.YteoalcmhdoopnaaDoorItPut
namespace Go.Proofs.YteoalcmhdoopnaaDoor
open Go.RowKit

set_option maxRecDepth 100000 in
set_option maxHeartbeats 6400000 in
theorem idrop_none (k : Int) (t : ByteArray) (a : Option Addr) (n cap : Nat) (fs : List Fld) (name : ByteArray) (w : World) (hk : k ≠ 1) (hr : RF w a n cap fs) (hs : Srt fs) (hn : n ≤ 100000) (hH : hasF fs name = false) :
    Calls Tryd.prog 24 #[.agg #[.int .i64 k, .string t, .slice a n cap], .string name] w fun e w' => ∃ (a' : Option Addr) (cap' : Nat), e = .returned (.tuple #[.agg #[.int .i64 k, .string t, .slice a' n cap'], .bool false, .int .i64 0]) ∧ w'.ownsRow w.heap.size 30 2 (.slice a' n cap') n (flds fs) ∧ Below w.heap.size w w' := by
  have hl := hr.len
  have hk1 : (k == 1) = false := by simpa using hk
  obtain ⟨W2, hW2⟩ : ∃ W2, W2 = (w.alloc (.cells #[.int .i64 k, .string t, .slice a n cap] 24)).alloc (.cells #[.int .i64 0, .string ⟨#[]⟩, .slice none 0 0] 24) := ⟨_, rfl⟩
  have hb2 : Below w.heap.size w W2 := by rw [hW2]; exact ((Below.refl _ _).alloc (Nat.le_refl _) _).alloc (by simp) _
  have hs2 : W2.heap.size = w.heap.size + 2 := by rw [hW2]; simp
  have hB : ∀ q u, #[.int .i64 k, .string t, .slice a n cap][q]? = some u → W2.cell? ⟨w.heap.size, q, none⟩ = some u := fun q u h => by rw [hW2, World.cell?_alloc_past _ _ _ (by simp), World.cell?_alloc_new]; exact h
  have hC : ∀ q u, #[.int .i64 0, .string ⟨#[]⟩, .slice none 0 0][q]? = some u → W2.cell? ⟨w.heap.size + 1, q, none⟩ = some u := fun q u h => by
    rw [hW2, show w.heap.size + 1 = (w.alloc (.cells #[.int .i64 k, .string t, .slice a n cap] 24)).heap.size by simp, World.cell?_alloc_new]; exact h
  have hfC : Blk W2 (w.heap.size + 1) := by rw [hW2, show w.heap.size + 1 = (w.alloc (.cells #[.int .i64 k, .string t, .slice a n cap] 24)).heap.size by simp]; exact Blk.new _ _ _
  have g0 : W2.cell? ⟨w.heap.size, 0, none⟩ = some (.int .i64 k) := hB 0 _ rfl
  have g1 : W2.cell? ⟨w.heap.size, 1, none⟩ = some (.string t) := hB 1 _ rfl
  have g2 : W2.cell? ⟨w.heap.size, 2, none⟩ = some (.slice a n cap) := hB 2 _ rfl
  have i0 : W2.cell? ⟨w.heap.size + 1, 0, none⟩ = some (.int .i64 0) := hC 0 _ rfl
  have i1 : W2.cell? ⟨w.heap.size + 1, 1, none⟩ = some (.string ⟨#[]⟩) := hC 1 _ rfl
  have i2 : W2.cell? ⟨w.heap.size + 1, 2, none⟩ = some (.slice none 0 0) := hC 2 _ rfl
  have y0 := hfC.frz 0 none
  have y1 := hfC.frz 1 none
  have y2 := hfC.frz 2 none
  replace hW2 := Lib.hid hW2
  clear hB hC
  have hr2 := hr.below hb2
  have hat := at_any k t a n cap fs name W2 hr2 hs hn
  obtain ⟨L, hL⟩ : ∃ L, L = lbF fs name := ⟨_, rfl⟩
  rw [← hL, hH] at hat
  replace hat := Lib.hid hat
  replace hr2 := Lib.hid hr2
  replace hL := Lib.hid hL
  replace hH := Lib.hid hH
  replace hs := Lib.hid hs
  replace hl := Lib.hid hl
  clear hr hk
  go_enter Tryd.func24, Tryd.ntmps24
  go_upto_region 1 with fail
  rw [← hW2.out]
  go_wp2_with fail
  refine hat.out.mono ?_
  rintro e w4 ⟨rfl, hb4⟩
  replace g0 := bcell hb4 g0
  replace g1 := bcell hb4 g1
  replace g2 := bcell hb4 g2
  replace i0 := bcell hb4 i0
  replace i1 := bcell hb4 i1
  replace i2 := bcell hb4 i2
  replace hfC := hfC.of_block (hb4.block _ hfC.lt)
  clear y0 y1 y2
  have y0 := hfC.frz 0 none
  have y1 := hfC.frz 1 none
  have y2 := hfC.frz 2 none
  have hbel := hb2.trans (hb4.mono hb2.size)
  have hr4 := hr2.out.below hb4
  replace hr4 := Lib.hid hr4
  go_wp2_with fail
  refine (icopy_any k t a n cap fs _ hr4.out hn).mono ?_
  rintro e w6 ⟨a6, c6, rfl, hown, hb6⟩
  replace g0 := bcell hb6 g0
  replace g1 := bcell hb6 g1
  replace g2 := bcell hb6 g2
  replace i0 := bcell hb6 i0
  replace i1 := bcell hb6 i1
  replace i2 := bcell hb6 i2
  replace hfC := hfC.of_block (hb6.block _ hfC.lt)
  clear y0 y1 y2
  have y0 := hfC.frz 0 none
  have y1 := hfC.frz 1 none
  have y2 := hfC.frz 2 none
  have hbel6 := hbel.trans (hb6.mono hbel.size)
  have hw5 : w.heap.size + 2 ≤ w4.heap.size + 2 := by have := hbel.size; omega
  have hob := owns_block hown
  obtain ⟨W7, hW7⟩ : ∃ W7, W7 = w6.alloc (.cells #[.int .i64 k, .string t, .slice a6 n c6] 24) := ⟨_, rfl⟩
  have hb67 : Below w6.heap.size w6 W7 := by rw [hW7]; exact (Below.refl _ _).alloc (Nat.le_refl _) _
  have hbel7 := hbel6.trans (hb67.mono hbel6.size)
  have m0 : W7.cell? ⟨w6.heap.size, 0, none⟩ = some (.int .i64 k) := by rw [hW7, World.cell?_alloc_new]; rfl
  have m1 : W7.cell? ⟨w6.heap.size, 1, none⟩ = some (.string t) := by rw [hW7, World.cell?_alloc_new]; rfl
  have m2 : W7.cell? ⟨w6.heap.size, 2, none⟩ = some (.slice a6 n c6) := by rw [hW7, World.cell?_alloc_new]; rfl
  have hbm : Blk W7 w6.heap.size := by rw [hW7]; exact Blk.new _ _ _
  have hown7 := owns_fr hown (Fr.of_below hb67) (fun q hq => by have := (hob q hq).2; omega)
  go_upto_region 5 with fail
  rw [← hW7]
  replace g0 := bcell hb67 g0
  replace g1 := bcell hb67 g1
  replace g2 := bcell hb67 g2
  replace i0 := bcell hb67 i0
  replace i1 := bcell hb67 i1
  replace i2 := bcell hb67 i2
  replace hfC := hfC.of_block (hb67.block _ hfC.lt)
  clear y0 y1 y2
  have y0 := hfC.frz 0 none
  have y1 := hfC.frz 1 none
  have y2 := hfC.frz 2 none
  have hfin := set3 hbel7
  replace hW7 := Lib.hid hW7
  replace hfin := Lib.hid hfin
  replace hown7 := Lib.hid hown7
  replace hob := Lib.hid hob
  clear hown
  go_wp2_with fail
  refine bodyPost_ret (v := .tuple #[.agg #[.int .i64 k, .string t, .slice a6 n c6], .bool false, .int .i64 0]) (by simp [results, Tryd.results24, go_sem, i0, i1, i2]) rfl ⟨a6, c6, rfl, ?_, hfin.out _ _ _⟩
  exact owns_mono (owns_fr hown7.out (fr3 w.heap.size _ _ _ _) (fun q hq => by have h1 := (hob.out q hq).1; show ¬ (q = w.heap.size + 1); omega)) (by omega)
set_option maxRecDepth 100000 in
set_option maxHeartbeats 6400000 in
theorem idrop_last (k : Int) (t : ByteArray) (a : Option Addr) (n cap : Nat) (fs : List Fld) (name : ByteArray) (w : World) (hk : k ≠ 1) (hr : RF w a n cap fs) (hs : Srt fs) (hn : n ≤ 100000) (hH : hasF fs name = true) (hn1 : n = 1) :
    Calls Tryd.prog 24 #[.agg #[.int .i64 k, .string t, .slice a n cap], .string name] w fun e w' => e = .returned (.tuple #[.agg #[.int .i64 0, .string ⟨#[]⟩, .slice none 0 0], .bool true, .int .i64 0]) ∧ Below w.heap.size w w' := by
  have hn1b : ((n : Int) == 1) = true := by simp; omega
  replace hn1 := Lib.hid hn1
  have hl := hr.len
  have hk1 : (k == 1) = false := by simpa using hk
  obtain ⟨W2, hW2⟩ : ∃ W2, W2 = (w.alloc (.cells #[.int .i64 k, .string t, .slice a n cap] 24)).alloc (.cells #[.int .i64 0, .string ⟨#[]⟩, .slice none 0 0] 24) := ⟨_, rfl⟩
  have hb2 : Below w.heap.size w W2 := by rw [hW2]; exact ((Below.refl _ _).alloc (Nat.le_refl _) _).alloc (by simp) _
  have hs2 : W2.heap.size = w.heap.size + 2 := by rw [hW2]; simp
  have hB : ∀ q u, #[.int .i64 k, .string t, .slice a n cap][q]? = some u → W2.cell? ⟨w.heap.size, q, none⟩ = some u := fun q u h => by rw [hW2, World.cell?_alloc_past _ _ _ (by simp), World.cell?_alloc_new]; exact h
  have hC : ∀ q u, #[.int .i64 0, .string ⟨#[]⟩, .slice none 0 0][q]? = some u → W2.cell? ⟨w.heap.size + 1, q, none⟩ = some u := fun q u h => by
    rw [hW2, show w.heap.size + 1 = (w.alloc (.cells #[.int .i64 k, .string t, .slice a n cap] 24)).heap.size by simp, World.cell?_alloc_new]; exact h
  have hfC : Blk W2 (w.heap.size + 1) := by rw [hW2, show w.heap.size + 1 = (w.alloc (.cells #[.int .i64 k, .string t, .slice a n cap] 24)).heap.size by simp]; exact Blk.new _ _ _
  have g0 : W2.cell? ⟨w.heap.size, 0, none⟩ = some (.int .i64 k) := hB 0 _ rfl
  have g1 : W2.cell? ⟨w.heap.size, 1, none⟩ = some (.string t) := hB 1 _ rfl
  have g2 : W2.cell? ⟨w.heap.size, 2, none⟩ = some (.slice a n cap) := hB 2 _ rfl
  have i0 : W2.cell? ⟨w.heap.size + 1, 0, none⟩ = some (.int .i64 0) := hC 0 _ rfl
  have i1 : W2.cell? ⟨w.heap.size + 1, 1, none⟩ = some (.string ⟨#[]⟩) := hC 1 _ rfl
  have i2 : W2.cell? ⟨w.heap.size + 1, 2, none⟩ = some (.slice none 0 0) := hC 2 _ rfl
  have y0 := hfC.frz 0 none
  have y1 := hfC.frz 1 none
  have y2 := hfC.frz 2 none
  replace hW2 := Lib.hid hW2
  clear hB hC
  have hr2 := hr.below hb2
  have hat := at_any k t a n cap fs name W2 hr2 hs hn
  obtain ⟨L, hL⟩ : ∃ L, L = lbF fs name := ⟨_, rfl⟩
  rw [← hL, hH] at hat
  replace hat := Lib.hid hat
  replace hr2 := Lib.hid hr2
  replace hL := Lib.hid hL
  replace hH := Lib.hid hH
  replace hs := Lib.hid hs
  replace hl := Lib.hid hl
  clear hr hk
  go_enter Tryd.func24, Tryd.ntmps24
  go_upto_region 1 with fail
  rw [← hW2.out]
  go_wp2_with fail
  refine hat.out.mono ?_
  rintro e w4 ⟨rfl, hb4⟩
  replace g0 := bcell hb4 g0
  replace g1 := bcell hb4 g1
  replace g2 := bcell hb4 g2
  replace i0 := bcell hb4 i0
  replace i1 := bcell hb4 i1
  replace i2 := bcell hb4 i2
  replace hfC := hfC.of_block (hb4.block _ hfC.lt)
  clear y0 y1 y2
  have y0 := hfC.frz 0 none
  have y1 := hfC.frz 1 none
  have y2 := hfC.frz 2 none
  have hbel := hb2.trans (hb4.mono hb2.size)
  have hr4 := hr2.out.below hb4
  replace hr4 := Lib.hid hr4
  go_wp2_with fail
  refine (icopy_any k t a n cap fs _ hr4.out hn).mono ?_
  rintro e w6 ⟨a6, c6, rfl, hown, hb6⟩
  replace g0 := bcell hb6 g0
  replace g1 := bcell hb6 g1
  replace g2 := bcell hb6 g2
  replace i0 := bcell hb6 i0
  replace i1 := bcell hb6 i1
  replace i2 := bcell hb6 i2
  replace hfC := hfC.of_block (hb6.block _ hfC.lt)
  clear y0 y1 y2
  have y0 := hfC.frz 0 none
  have y1 := hfC.frz 1 none
  have y2 := hfC.frz 2 none
  have hbel6 := hbel.trans (hb6.mono hbel.size)
  have hw5 : w.heap.size + 2 ≤ w4.heap.size + 2 := by have := hbel.size; omega
  have hob := owns_block hown
  obtain ⟨W7, hW7⟩ : ∃ W7, W7 = w6.alloc (.cells #[.int .i64 k, .string t, .slice a6 n c6] 24) := ⟨_, rfl⟩
  have hb67 : Below w6.heap.size w6 W7 := by rw [hW7]; exact (Below.refl _ _).alloc (Nat.le_refl _) _
  have hbel7 := hbel6.trans (hb67.mono hbel6.size)
  have m0 : W7.cell? ⟨w6.heap.size, 0, none⟩ = some (.int .i64 k) := by rw [hW7, World.cell?_alloc_new]; rfl
  have m1 : W7.cell? ⟨w6.heap.size, 1, none⟩ = some (.string t) := by rw [hW7, World.cell?_alloc_new]; rfl
  have m2 : W7.cell? ⟨w6.heap.size, 2, none⟩ = some (.slice a6 n c6) := by rw [hW7, World.cell?_alloc_new]; rfl
  have hbm : Blk W7 w6.heap.size := by rw [hW7]; exact Blk.new _ _ _
  have hown7 := owns_fr hown (Fr.of_below hb67) (fun q hq => by have := (hob q hq).2; omega)
  go_upto_region 5 with fail
  rw [← hW7]
  replace g0 := bcell hb67 g0
  replace g1 := bcell hb67 g1
  replace g2 := bcell hb67 g2
  replace i0 := bcell hb67 i0
  replace i1 := bcell hb67 i1
  replace i2 := bcell hb67 i2
  replace hfC := hfC.of_block (hb67.block _ hfC.lt)
  clear y0 y1 y2
  have y0 := hfC.frz 0 none
  have y1 := hfC.frz 1 none
  have y2 := hfC.frz 2 none
  have hfin := set3 hbel7
  replace hW7 := Lib.hid hW7
  replace hfin := Lib.hid hfin
  replace hown7 := Lib.hid hown7
  replace hob := Lib.hid hob
  clear hown
  go_wp2_with fail
  refine bodyPost_ret (v := .tuple #[.agg #[.int .i64 0, .string ⟨#[]⟩, .slice none 0 0], .bool true, .int .i64 0]) (by simp [results, Tryd.results24, go_sem, i0, i1, i2]) rfl ⟨rfl, hfin.out _ _ _⟩
theorem del_eq {fs : List Fld} (hs : Srt fs) {name : ByteArray} (h : hasF fs name = true) : dropF fs name = del fs (lbF fs name) := dropF_at hs h
set_option maxRecDepth 100000 in
set_option maxHeartbeats 6400000 in
theorem idrop_more (k : Int) (t : ByteArray) (a : Option Addr) (n cap : Nat) (fs : List Fld) (name : ByteArray) (w : World) (hk : k ≠ 1) (hr : RF w a n cap fs) (hs : Srt fs) (hn : n ≤ 99999) (hH : hasF fs name = true) (hn1 : n ≠ 1) :
    Calls Tryd.prog 24 #[.agg #[.int .i64 k, .string t, .slice a n cap], .string name] w fun e w' => ∃ (a' : Option Addr) (cap' : Nat), e = .returned (.tuple #[.agg #[.int .i64 k, .string t, .slice a' (n - 1) cap'], .bool true, .int .i64 0]) ∧ w'.ownsRow w.heap.size 30 2 (.slice a' (n - 1) cap') (n - 1) (flds (dropF fs name)) ∧ Below w.heap.size w w' := by
  have hn : n ≤ 100000 := by omega
  have hn1b : ((n : Int) == 1) = false := by simp; omega
  replace hn1 := Lib.hid hn1
  obtain ⟨N, hN⟩ : ∃ N, N = n - 1 := ⟨_, rfl⟩
  obtain ⟨D, hD⟩ : ∃ D, D = dropF fs name := ⟨_, rfl⟩
  rw [← hN, ← hD]
  replace hN := Lib.hid hN
  replace hD := Lib.hid hD
  have hl := hr.len
  have hk1 : (k == 1) = false := by simpa using hk
  obtain ⟨W2, hW2⟩ : ∃ W2, W2 = (w.alloc (.cells #[.int .i64 k, .string t, .slice a n cap] 24)).alloc (.cells #[.int .i64 0, .string ⟨#[]⟩, .slice none 0 0] 24) := ⟨_, rfl⟩
  have hb2 : Below w.heap.size w W2 := by rw [hW2]; exact ((Below.refl _ _).alloc (Nat.le_refl _) _).alloc (by simp) _
  have hs2 : W2.heap.size = w.heap.size + 2 := by rw [hW2]; simp
  have hB : ∀ q u, #[.int .i64 k, .string t, .slice a n cap][q]? = some u → W2.cell? ⟨w.heap.size, q, none⟩ = some u := fun q u h => by rw [hW2, World.cell?_alloc_past _ _ _ (by simp), World.cell?_alloc_new]; exact h
  have hC : ∀ q u, #[.int .i64 0, .string ⟨#[]⟩, .slice none 0 0][q]? = some u → W2.cell? ⟨w.heap.size + 1, q, none⟩ = some u := fun q u h => by
    rw [hW2, show w.heap.size + 1 = (w.alloc (.cells #[.int .i64 k, .string t, .slice a n cap] 24)).heap.size by simp, World.cell?_alloc_new]; exact h
  have hfC : Blk W2 (w.heap.size + 1) := by rw [hW2, show w.heap.size + 1 = (w.alloc (.cells #[.int .i64 k, .string t, .slice a n cap] 24)).heap.size by simp]; exact Blk.new _ _ _
  have g0 : W2.cell? ⟨w.heap.size, 0, none⟩ = some (.int .i64 k) := hB 0 _ rfl
  have g1 : W2.cell? ⟨w.heap.size, 1, none⟩ = some (.string t) := hB 1 _ rfl
  have g2 : W2.cell? ⟨w.heap.size, 2, none⟩ = some (.slice a n cap) := hB 2 _ rfl
  have i0 : W2.cell? ⟨w.heap.size + 1, 0, none⟩ = some (.int .i64 0) := hC 0 _ rfl
  have i1 : W2.cell? ⟨w.heap.size + 1, 1, none⟩ = some (.string ⟨#[]⟩) := hC 1 _ rfl
  have i2 : W2.cell? ⟨w.heap.size + 1, 2, none⟩ = some (.slice none 0 0) := hC 2 _ rfl
  have y0 := hfC.frz 0 none
  have y1 := hfC.frz 1 none
  have y2 := hfC.frz 2 none
  replace hW2 := Lib.hid hW2
  clear hB hC
  have hr2 := hr.below hb2
  have hat := at_any k t a n cap fs name W2 hr2 hs hn
  obtain ⟨L, hL⟩ : ∃ L, L = lbF fs name := ⟨_, rfl⟩
  rw [← hL, hH] at hat
  replace hat := Lib.hid hat
  replace hr2 := Lib.hid hr2
  replace hL := Lib.hid hL
  replace hH := Lib.hid hH
  replace hs := Lib.hid hs
  replace hl := Lib.hid hl
  clear hr hk
  go_enter Tryd.func24, Tryd.ntmps24
  go_upto_region 1 with fail
  rw [← hW2.out]
  go_wp2_with fail
  refine hat.out.mono ?_
  rintro e w4 ⟨rfl, hb4⟩
  replace g0 := bcell hb4 g0
  replace g1 := bcell hb4 g1
  replace g2 := bcell hb4 g2
  replace i0 := bcell hb4 i0
  replace i1 := bcell hb4 i1
  replace i2 := bcell hb4 i2
  replace hfC := hfC.of_block (hb4.block _ hfC.lt)
  clear y0 y1 y2
  have y0 := hfC.frz 0 none
  have y1 := hfC.frz 1 none
  have y2 := hfC.frz 2 none
  have hbel := hb2.trans (hb4.mono hb2.size)
  have hr4 := hr2.out.below hb4
  replace hr4 := Lib.hid hr4
  go_wp2_with fail
  refine (icopy_any k t a n cap fs _ hr4.out hn).mono ?_
  rintro e w6 ⟨a6, c6, rfl, hown, hb6⟩
  replace g0 := bcell hb6 g0
  replace g1 := bcell hb6 g1
  replace g2 := bcell hb6 g2
  replace i0 := bcell hb6 i0
  replace i1 := bcell hb6 i1
  replace i2 := bcell hb6 i2
  replace hfC := hfC.of_block (hb6.block _ hfC.lt)
  clear y0 y1 y2
  have y0 := hfC.frz 0 none
  have y1 := hfC.frz 1 none
  have y2 := hfC.frz 2 none
  have hbel6 := hbel.trans (hb6.mono hbel.size)
  have hw5 : w.heap.size + 2 ≤ w4.heap.size + 2 := by have := hbel.size; omega
  have hob := owns_block hown
  obtain ⟨W7, hW7⟩ : ∃ W7, W7 = w6.alloc (.cells #[.int .i64 k, .string t, .slice a6 n c6] 24) := ⟨_, rfl⟩
  have hb67 : Below w6.heap.size w6 W7 := by rw [hW7]; exact (Below.refl _ _).alloc (Nat.le_refl _) _
  have hbel7 := hbel6.trans (hb67.mono hbel6.size)
  have m0 : W7.cell? ⟨w6.heap.size, 0, none⟩ = some (.int .i64 k) := by rw [hW7, World.cell?_alloc_new]; rfl
  have m1 : W7.cell? ⟨w6.heap.size, 1, none⟩ = some (.string t) := by rw [hW7, World.cell?_alloc_new]; rfl
  have m2 : W7.cell? ⟨w6.heap.size, 2, none⟩ = some (.slice a6 n c6) := by rw [hW7, World.cell?_alloc_new]; rfl
  have hbm : Blk W7 w6.heap.size := by rw [hW7]; exact Blk.new _ _ _
  have hown7 := owns_fr hown (Fr.of_below hb67) (fun q hq => by have := (hob q hq).2; omega)
  go_upto_region 5 with fail
  rw [← hW7]
  replace g0 := bcell hb67 g0
  replace g1 := bcell hb67 g1
  replace g2 := bcell hb67 g2
  replace i0 := bcell hb67 i0
  replace i1 := bcell hb67 i1
  replace i2 := bcell hb67 i2
  replace hfC := hfC.of_block (hb67.block _ hfC.lt)
  clear y0 y1 y2
  have y0 := hfC.frz 0 none
  have y1 := hfC.frz 1 none
  have y2 := hfC.frz 2 none
  have hfin := set3 hbel7
  replace hW7 := Lib.hid hW7
  replace hfin := Lib.hid hfin
  replace hown7 := Lib.hid hown7
  replace hob := Lib.hid hob
  obtain ⟨hlb, hname⟩ := (hasF_at hs.out).1 hH.out
  have hLn : L < n := by have := hl.out; rw [hL.out]; omega
  obtain ⟨ad, rfl⟩ : ∃ ad, a6 = some ad := by
    cases a6 with
    | some ad => exact ⟨ad, rfl⟩
    | none => have := (RF.of_owns hown).nil; omega
  obtain ⟨g, cur, rfl, hgB, hg, -⟩ := owns_open hown
  have hgt : g < w6.heap.size := (Array.getElem?_eq_some_iff.1 hg).1
  have hdel := delete_own (w4.heap.size + 2) g n c6 L fs W7 hown7.out hn hLn
  unfold DelP at hdel
  rw [← hN.out, hL.out, ← del_eq hs.out hH.out, ← hL.out, ← hD.out] at hdel
  replace hdel := Lib.hid hdel
  have hw1 : IntKind.i64.wrap ((L : Int) + 1) = (L : Int) + 1 := IntWalk.i64_in _ (by omega)
  clear hown hg hlb hname cur
  go_wp2_with fail
  refine hdel.out.mono ?_
  rintro e w9 ⟨rfl, hown9, hf9⟩
  have hoff : ∀ b, b ≠ g → ¬ (some g = some b) := fun b hb h => hb (by simpa using h.symm)
  have n0 := hf9.cell m0 (hoff w6.heap.size (by omega))
  have n1 := hf9.cell m1 (hoff w6.heap.size (by omega))
  have n2 := hf9.cell m2 (hoff w6.heap.size (by omega))
  have nz : w9.frozen? ⟨w6.heap.size, 2, none⟩ = false := (hbm.fr hf9 (hoff w6.heap.size (by omega))).frz 2 none
  have hi9 := hoff (w.heap.size + 1) (by omega)
  have j0 := hf9.cell i0 hi9
  have j1 := hf9.cell i1 hi9
  have j2 := hf9.cell i2 hi9
  have hj := hfC.fr hf9 hi9
  have x0 := hj.frz 0 none
  have x1 := hj.frz 1 none
  have x2 := hj.frz 2 none
  have hbel9 : Below w.heap.size w w9 := hbel7.trans (hf9.below hbel7.size (fun i hi h => by have h1 : g = i := (by simpa using h); omega))
  have hb10 : Below w.heap.size w (w9.setCell ⟨w6.heap.size, 2, none⟩ (.slice (some ⟨g, 0, none⟩) N c6)) := hbel9.setCell (by show w.heap.size ≤ w6.heap.size; have := hbel6.size; omega) _
  have hown10 : (w9.setCell ⟨w6.heap.size, 2, none⟩ (.slice (some ⟨g, 0, none⟩) N c6)).ownsRow (w4.heap.size + 2) 30 2 (.slice (some ⟨g, 0, none⟩) N c6) N (flds D) :=
    owns_fr hown9 ((Fr.refl (fun q => q = w6.heap.size) w9).setCell (p := ⟨w6.heap.size, 2, none⟩) (fun _ => rfl) _) (fun q hq h => by
      have : g = q := by simpa [Value.ownBlock] using hq
      omega)
  have hne1 : ¬ (w6.heap.size = w.heap.size + 1) := by have := hbel.size; have := hb6.size; omega
  clear m0 m1 m2 g0 g1 g2 i0 i1 i2 y0 y1 y2 hown9 hf9 hoff hi9 hbm hj hfC hbel7 hbel9 hfin hw1
  replace hb10 := Lib.hid hb10
  replace hown10 := Lib.hid hown10
  go_wp2_with fail
  refine bodyPost_ret (v := .tuple #[.agg #[.int .i64 k, .string t, .slice (some ⟨g, 0, none⟩) N c6], .bool true, .int .i64 0]) (by simp [results, Tryd.results24, go_sem, j0, j1, j2]) rfl ⟨some ⟨g, 0, none⟩, c6, rfl, ?_, set3 hb10.out _ _ _⟩
  exact owns_mono (owns_fr hown10.out (fr3 w.heap.size _ _ _ _) (fun q hq => by have h1 : g = q := (by simpa [Value.ownBlock] using hq); show ¬ (q = w.heap.size + 1); omega)) (by omega)
end Go.Proofs.YteoalcmhdoopnaaDoor
