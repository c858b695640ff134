/- item.Add where nothing is added: a hash, a text that is no whole number, a sum that is too great. -/
import Derived.Test.YteoalcmhdoopnaaDoorItAdd
namespace Go.Proofs.YteoalcmhdoopnaaDoor
open Go.RowKit

/-- Nothing was added: an error, and some item. -/
def AddBad (w : World) (e : Ending) (w' : World) : Prop := ∃ (k1 : Int) (t1 : ByteArray) (a1 : Option Addr) (n1 c1 : Nat) (er : Int), e = .returned (.tuple #[.agg #[.int .i64 k1, .string t1, .slice a1 n1 c1], .int .i64 0, .int .i64 er]) ∧ er ≠ 0 ∧ Below w.heap.size w w'
set_option maxRecDepth 100000 in
set_option maxHeartbeats 3200000 in
theorem iadd_hash (t : ByteArray) (a : Option Addr) (n cap : Nat) (fs : List Fld) (v : Int) (w : World) (hr : RF w a n cap fs) (hn : n ≤ 100000) :
    Calls Tryd.prog 26 #[.agg #[.int .i64 2, .string t, .slice a n cap], .int .i64 v] w (AddBad w) := by
  obtain ⟨k, hk⟩ : ∃ k : Int, k = 2 := ⟨2, rfl⟩
  rw [← hk]
  obtain ⟨W2, hW2⟩ : ∃ W2, W2 = (w.alloc (.cells #[.int .i64 k, .string t, .slice a n cap] 24)).alloc (.cells #[.int .i64 0, .string ⟨#[]⟩, .slice none 0 0] 24) := ⟨_, rfl⟩
  have hb2 : Below w.heap.size w W2 := by rw [hW2]; exact ((Below.refl _ _).alloc (Nat.le_refl _) _).alloc (by simp) _
  have hs2 : W2.heap.size = w.heap.size + 2 := by rw [hW2]; simp
  have hB : ∀ q u, #[.int .i64 k, .string t, .slice a n cap][q]? = some u → W2.cell? ⟨w.heap.size, q, none⟩ = some u := fun q u h => by rw [hW2, World.cell?_alloc_past _ _ _ (by simp), World.cell?_alloc_new]; exact h
  have hC : ∀ q u, #[.int .i64 0, .string ⟨#[]⟩, .slice none 0 0][q]? = some u → W2.cell? ⟨w.heap.size + 1, q, none⟩ = some u := fun q u h => by
    rw [hW2, show w.heap.size + 1 = (w.alloc (.cells #[.int .i64 k, .string t, .slice a n cap] 24)).heap.size by simp, World.cell?_alloc_new]; exact h
  have hfC : Blk W2 (w.heap.size + 1) := by rw [hW2, show w.heap.size + 1 = (w.alloc (.cells #[.int .i64 k, .string t, .slice a n cap] 24)).heap.size by simp]; exact Blk.new _ _ _
  have g0 : W2.cell? ⟨w.heap.size, 0, none⟩ = some (.int .i64 k) := hB 0 _ rfl
  have g1 : W2.cell? ⟨w.heap.size, 1, none⟩ = some (.string t) := hB 1 _ rfl
  have g2 : W2.cell? ⟨w.heap.size, 2, none⟩ = some (.slice a n cap) := hB 2 _ rfl
  have i0 : W2.cell? ⟨w.heap.size + 1, 0, none⟩ = some (.int .i64 0) := hC 0 _ rfl
  have i1 : W2.cell? ⟨w.heap.size + 1, 1, none⟩ = some (.string ⟨#[]⟩) := hC 1 _ rfl
  have i2 : W2.cell? ⟨w.heap.size + 1, 2, none⟩ = some (.slice none 0 0) := hC 2 _ rfl
  have y0 := hfC.frz 0 none
  have y1 := hfC.frz 1 none
  have y2 := hfC.frz 2 none
  replace hW2 := Lib.hid hW2
  clear hB hC
  subst hk
  have hr2 := hr.below hb2
  replace hr2 := Lib.hid hr2
  clear hr
  go_enter Tryd.func26, Tryd.ntmps26
  go_upto_region 2 with fail
  rw [← hW2.out]
  go_wp2_with fail
  refine (icopy_any 2 t a n cap fs _ hr2.out hn).mono ?_
  rintro e w3 ⟨a3, c3, rfl, hown, hb3⟩
  obtain ⟨a4, c4, he4⟩ := (Reads.of_owns hown).shape
  replace g0 := bcell hb3 g0
  replace g1 := bcell hb3 g1
  replace g2 := bcell hb3 g2
  replace i0 := bcell hb3 i0
  replace i1 := bcell hb3 i1
  replace i2 := bcell hb3 i2
  replace hfC := hfC.of_block (hb3.block _ hfC.lt)
  clear y0 y1 y2
  have y0 := hfC.frz 0 none
  have y1 := hfC.frz 1 none
  have y2 := hfC.frz 2 none
  have hbel := hb2.trans (hb3.mono hb2.size)
  have hfin := set3 hbel
  replace hfin := Lib.hid hfin
  clear hown he4
  go_wp2_with fail
  refine bodyPost_ret (v := .tuple #[.agg #[.int .i64 2, .string t, .slice a3 n c3], .int .i64 0, .int .i64 91]) (by simp [results, Tryd.results26, go_sem, i0, i1, i2]) rfl ⟨2, t, a3, n, c3, 91, rfl, by decide, hfin.out _ _ _⟩
set_option maxRecDepth 100000 in
set_option maxHeartbeats 3200000 in
theorem iadd_none (t : ByteArray) (a : Option Addr) (n cap : Nat) (v : Int) (w : World) (hw : wP t.data.toList = none) (ht : t.size ≤ 1000000) (hN : Nums w) :
    Calls Tryd.prog 26 #[.agg #[.int .i64 1, .string t, .slice a n cap], .int .i64 v] w (AddBad w) := by
  obtain ⟨k, hk⟩ : ∃ k : Int, k = 1 := ⟨1, rfl⟩
  rw [← hk]
  obtain ⟨W2, hW2⟩ : ∃ W2, W2 = (w.alloc (.cells #[.int .i64 k, .string t, .slice a n cap] 24)).alloc (.cells #[.int .i64 0, .string ⟨#[]⟩, .slice none 0 0] 24) := ⟨_, rfl⟩
  have hb2 : Below w.heap.size w W2 := by rw [hW2]; exact ((Below.refl _ _).alloc (Nat.le_refl _) _).alloc (by simp) _
  have hs2 : W2.heap.size = w.heap.size + 2 := by rw [hW2]; simp
  have hB : ∀ q u, #[.int .i64 k, .string t, .slice a n cap][q]? = some u → W2.cell? ⟨w.heap.size, q, none⟩ = some u := fun q u h => by rw [hW2, World.cell?_alloc_past _ _ _ (by simp), World.cell?_alloc_new]; exact h
  have hC : ∀ q u, #[.int .i64 0, .string ⟨#[]⟩, .slice none 0 0][q]? = some u → W2.cell? ⟨w.heap.size + 1, q, none⟩ = some u := fun q u h => by
    rw [hW2, show w.heap.size + 1 = (w.alloc (.cells #[.int .i64 k, .string t, .slice a n cap] 24)).heap.size by simp, World.cell?_alloc_new]; exact h
  have hfC : Blk W2 (w.heap.size + 1) := by rw [hW2, show w.heap.size + 1 = (w.alloc (.cells #[.int .i64 k, .string t, .slice a n cap] 24)).heap.size by simp]; exact Blk.new _ _ _
  have g0 : W2.cell? ⟨w.heap.size, 0, none⟩ = some (.int .i64 k) := hB 0 _ rfl
  have g1 : W2.cell? ⟨w.heap.size, 1, none⟩ = some (.string t) := hB 1 _ rfl
  have g2 : W2.cell? ⟨w.heap.size, 2, none⟩ = some (.slice a n cap) := hB 2 _ rfl
  have i0 : W2.cell? ⟨w.heap.size + 1, 0, none⟩ = some (.int .i64 0) := hC 0 _ rfl
  have i1 : W2.cell? ⟨w.heap.size + 1, 1, none⟩ = some (.string ⟨#[]⟩) := hC 1 _ rfl
  have i2 : W2.cell? ⟨w.heap.size + 1, 2, none⟩ = some (.slice none 0 0) := hC 2 _ rfl
  have y0 := hfC.frz 0 none
  have y1 := hfC.frz 1 none
  have y2 := hfC.frz 2 none
  replace hW2 := Lib.hid hW2
  clear hB hC
  subst hk
  have hN2 := hN.below hb2
  replace hN2 := Lib.hid hN2
  have hpar : ∀ W, Nums W → Calls Tryd.prog 31 #[.string t] W fun e w' => e = .returned (.tuple #[.int .i64 0, .int .i64 11]) ∧ Below W.heap.size W w' := fun W h => (wparse_any t (by omega) W h).mono fun e w' ⟨he, hb⟩ => ⟨by rw [hw] at he; exact he, hb⟩
  replace hpar := Lib.hid hpar
  clear hN hw
  go_enter Tryd.func26, Tryd.ntmps26
  go_upto_region 2 with fail
  rw [← hW2.out]
  go_wp2_with fail
  refine (hpar.out _ hN2.out).mono ?_
  rintro e w3 ⟨rfl, hb3⟩
  replace g0 := bcell hb3 g0
  replace g1 := bcell hb3 g1
  replace g2 := bcell hb3 g2
  replace i0 := bcell hb3 i0
  replace i1 := bcell hb3 i1
  replace i2 := bcell hb3 i2
  replace hfC := hfC.of_block (hb3.block _ hfC.lt)
  clear y0 y1 y2
  have y0 := hfC.frz 0 none
  have y1 := hfC.frz 1 none
  have y2 := hfC.frz 2 none
  have hbel := hb2.trans (hb3.mono hb2.size)
  have hfin := set3 hbel
  replace hfin := Lib.hid hfin
  go_wp2_with fail
  refine bodyPost_ret (v := .tuple #[.agg #[.int .i64 1, .string t, .slice a n cap], .int .i64 0, .int .i64 92]) (by simp [results, Tryd.results26, go_sem, i0, i1, i2]) rfl ⟨1, t, a, n, cap, 92, rfl, by decide, hfin.out _ _ _⟩
set_option maxRecDepth 100000 in
set_option maxHeartbeats 3200000 in
theorem iadd_over (k : Int) (t : ByteArray) (a : Option Addr) (n cap : Nat) (v was : Int) (w : World) (hk : k ≠ 2) (hw : wasZ k t = some was) (hv : fits64 v) (hs : ¬ fits64 (was + v)) (ht : t.size ≤ 1000000) (hN : Nums w) :
    Calls Tryd.prog 26 #[.agg #[.int .i64 k, .string t, .slice a n cap], .int .i64 v] w (AddBad w) := by
  have hwf : fits64 was := by
    unfold wasZ at hw
    split at hw
    · exact (wP_iff.1 hw).1
    · simp only [Option.some.injEq] at hw; subst hw; exact ⟨by omega, by omega⟩
  have hk2 : (k == 2) = false := by simpa using hk
  obtain ⟨W2, hW2⟩ : ∃ W2, W2 = (w.alloc (.cells #[.int .i64 k, .string t, .slice a n cap] 24)).alloc (.cells #[.int .i64 0, .string ⟨#[]⟩, .slice none 0 0] 24) := ⟨_, rfl⟩
  have hb2 : Below w.heap.size w W2 := by rw [hW2]; exact ((Below.refl _ _).alloc (Nat.le_refl _) _).alloc (by simp) _
  have hs2 : W2.heap.size = w.heap.size + 2 := by rw [hW2]; simp
  have hB : ∀ q u, #[.int .i64 k, .string t, .slice a n cap][q]? = some u → W2.cell? ⟨w.heap.size, q, none⟩ = some u := fun q u h => by rw [hW2, World.cell?_alloc_past _ _ _ (by simp), World.cell?_alloc_new]; exact h
  have hC : ∀ q u, #[.int .i64 0, .string ⟨#[]⟩, .slice none 0 0][q]? = some u → W2.cell? ⟨w.heap.size + 1, q, none⟩ = some u := fun q u h => by
    rw [hW2, show w.heap.size + 1 = (w.alloc (.cells #[.int .i64 k, .string t, .slice a n cap] 24)).heap.size by simp, World.cell?_alloc_new]; exact h
  have hfC : Blk W2 (w.heap.size + 1) := by rw [hW2, show w.heap.size + 1 = (w.alloc (.cells #[.int .i64 k, .string t, .slice a n cap] 24)).heap.size by simp]; exact Blk.new _ _ _
  have g0 : W2.cell? ⟨w.heap.size, 0, none⟩ = some (.int .i64 k) := hB 0 _ rfl
  have g1 : W2.cell? ⟨w.heap.size, 1, none⟩ = some (.string t) := hB 1 _ rfl
  have g2 : W2.cell? ⟨w.heap.size, 2, none⟩ = some (.slice a n cap) := hB 2 _ rfl
  have i0 : W2.cell? ⟨w.heap.size + 1, 0, none⟩ = some (.int .i64 0) := hC 0 _ rfl
  have i1 : W2.cell? ⟨w.heap.size + 1, 1, none⟩ = some (.string ⟨#[]⟩) := hC 1 _ rfl
  have i2 : W2.cell? ⟨w.heap.size + 1, 2, none⟩ = some (.slice none 0 0) := hC 2 _ rfl
  have y0 := hfC.frz 0 none
  have y1 := hfC.frz 1 none
  have y2 := hfC.frz 2 none
  replace hW2 := Lib.hid hW2
  clear hB hC
  have hN2 := hN.below hb2
  replace hN2 := Lib.hid hN2
  have hadd : ∀ W, Calls Tryd.prog 37 #[.int .i64 was, .int .i64 v] W fun e w' => e = .returned (.tuple #[.int .i64 0, .int .i64 12]) ∧ Below W.heap.size W w' := fun W => wadd_out was v hwf hv hs W
  replace hadd := Lib.hid hadd
  clear hN hwf hv hs
  by_cases k1 : k = 1
  · subst k1
    have hw' : wP t.data.toList = some was := hw
    have hpar : ∀ W, Nums W → Calls Tryd.prog 31 #[.string t] W fun e w' => e = .returned (.tuple #[.int .i64 was, .int .i64 0]) ∧ Below W.heap.size W w' := fun W h => (wparse_any t (by omega) W h).mono fun e w' ⟨he, hb⟩ => ⟨by rw [hw'] at he; exact he, hb⟩
    replace hpar := Lib.hid hpar
    clear hw hw'
    go_enter Tryd.func26, Tryd.ntmps26
    go_upto_region 2 with fail
    rw [← hW2.out]
    go_wp2_with fail
    refine (hpar.out _ hN2.out).mono ?_
    rintro e w3 ⟨rfl, hb3⟩
    replace g0 := bcell hb3 g0
    replace g1 := bcell hb3 g1
    replace g2 := bcell hb3 g2
    replace i0 := bcell hb3 i0
    replace i1 := bcell hb3 i1
    replace i2 := bcell hb3 i2
    replace hfC := hfC.of_block (hb3.block _ hfC.lt)
    clear y0 y1 y2
    have y0 := hfC.frz 0 none
    have y1 := hfC.frz 1 none
    have y2 := hfC.frz 2 none
    have hbel := hb2.trans (hb3.mono hb2.size)
    go_wp2_with fail
    refine (hadd.out _).mono ?_
    rintro e w4 ⟨rfl, hb4⟩
    replace g0 := bcell hb4 g0
    replace g1 := bcell hb4 g1
    replace g2 := bcell hb4 g2
    replace i0 := bcell hb4 i0
    replace i1 := bcell hb4 i1
    replace i2 := bcell hb4 i2
    replace hfC := hfC.of_block (hb4.block _ hfC.lt)
    clear y0 y1 y2
    have y0 := hfC.frz 0 none
    have y1 := hfC.frz 1 none
    have y2 := hfC.frz 2 none
    have hbel := hbel.trans (hb4.mono hbel.size)
    have hfin := set3 hbel
    replace hfin := Lib.hid hfin
    go_wp2_with fail
    refine bodyPost_ret (v := .tuple #[.agg #[.int .i64 1, .string t, .slice a n cap], .int .i64 0, .int .i64 12]) (by simp [results, Tryd.results26, go_sem, i0, i1, i2]) rfl ⟨1, t, a, n, cap, 12, rfl, by decide, hfin.out _ _ _⟩
  · have k1' : (k == 1) = false := by simpa using k1
    obtain rfl : was = 0 := by unfold wasZ at hw; rw [if_neg k1] at hw; simpa using hw.symm
    clear hw k1
    go_enter Tryd.func26, Tryd.ntmps26
    go_upto_region 2 with fail
    rw [← hW2.out]
    have hbel := hb2
    go_wp2_with fail
    refine (hadd.out _).mono ?_
    rintro e w4 ⟨rfl, hb4⟩
    replace g0 := bcell hb4 g0
    replace g1 := bcell hb4 g1
    replace g2 := bcell hb4 g2
    replace i0 := bcell hb4 i0
    replace i1 := bcell hb4 i1
    replace i2 := bcell hb4 i2
    replace hfC := hfC.of_block (hb4.block _ hfC.lt)
    clear y0 y1 y2
    have y0 := hfC.frz 0 none
    have y1 := hfC.frz 1 none
    have y2 := hfC.frz 2 none
    have hbel := hbel.trans (hb4.mono hbel.size)
    have hfin := set3 hbel
    replace hfin := Lib.hid hfin
    go_wp2_with fail
    refine bodyPost_ret (v := .tuple #[.agg #[.int .i64 k, .string t, .slice a n cap], .int .i64 0, .int .i64 12]) (by simp [results, Tryd.results26, go_sem, i0, i1, i2]) rfl ⟨k, t, a, n, cap, 12, rfl, by decide, hfin.out _ _ _⟩
end Go.Proofs.YteoalcmhdoopnaaDoor
