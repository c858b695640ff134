/- item.Append, the document's Append; fits. -/
import Derived.Test.YteoalcmhdoopnaaDoorItRDrop
namespace Go.Proofs.YteoalcmhdoopnaaDoor
open Go.RowKit

set_option maxRecDepth 100000 in
set_option maxHeartbeats 3200000 in
theorem iappend_hash (k : Int) (hk : k = 2) (t : ByteArray) (a : Option Addr) (n cap : Nat) (fs : List Fld) (s : ByteArray) (w : World) (hr : RF w a n cap fs) (hn : n ≤ 100000) :
    Calls Tryd.prog 20 #[.agg #[.int .i64 k, .string t, .slice a n cap], .string s] w fun e w' => ∃ (a' : Option Addr) (cap' : Nat), e = .returned (.tuple #[.agg #[.int .i64 k, .string t, .slice a' n cap'], .int .i64 91]) ∧ RF w' a' n cap' fs ∧ Below w.heap.size w w' := by
  have hk2 : (k == 2) = true := by simpa using hk
  replace hk := Lib.hid hk
  obtain ⟨W2, hW2⟩ : ∃ W2, W2 = (w.alloc (.cells #[.int .i64 k, .string t, .slice a n cap] 24)).alloc (.cells #[.int .i64 0, .string ⟨#[]⟩, .slice none 0 0] 24) := ⟨_, rfl⟩
  have hb2 : Below w.heap.size w W2 := by rw [hW2]; exact ((Below.refl _ _).alloc (Nat.le_refl _) _).alloc (by simp) _
  have hs2 : W2.heap.size = w.heap.size + 2 := by rw [hW2]; simp
  have hB : ∀ q u, #[.int .i64 k, .string t, .slice a n cap][q]? = some u → W2.cell? ⟨w.heap.size, q, none⟩ = some u := fun q u h => by rw [hW2, World.cell?_alloc_past _ _ _ (by simp), World.cell?_alloc_new]; exact h
  have hC : ∀ q u, #[.int .i64 0, .string ⟨#[]⟩, .slice none 0 0][q]? = some u → W2.cell? ⟨w.heap.size + 1, q, none⟩ = some u := fun q u h => by
    rw [hW2, show w.heap.size + 1 = (w.alloc (.cells #[.int .i64 k, .string t, .slice a n cap] 24)).heap.size by simp, World.cell?_alloc_new]; exact h
  have hfC : Blk W2 (w.heap.size + 1) := by rw [hW2, show w.heap.size + 1 = (w.alloc (.cells #[.int .i64 k, .string t, .slice a n cap] 24)).heap.size by simp]; exact Blk.new _ _ _
  have g0 : W2.cell? ⟨w.heap.size, 0, none⟩ = some (.int .i64 k) := hB 0 _ rfl
  have g1 : W2.cell? ⟨w.heap.size, 1, none⟩ = some (.string t) := hB 1 _ rfl
  have g2 : W2.cell? ⟨w.heap.size, 2, none⟩ = some (.slice a n cap) := hB 2 _ rfl
  have i0 : W2.cell? ⟨w.heap.size + 1, 0, none⟩ = some (.int .i64 0) := hC 0 _ rfl
  have i1 : W2.cell? ⟨w.heap.size + 1, 1, none⟩ = some (.string ⟨#[]⟩) := hC 1 _ rfl
  have i2 : W2.cell? ⟨w.heap.size + 1, 2, none⟩ = some (.slice none 0 0) := hC 2 _ rfl
  have y0 := hfC.frz 0 none
  have y1 := hfC.frz 1 none
  have y2 := hfC.frz 2 none
  replace hW2 := Lib.hid hW2
  clear hB hC
  have hr2 := hr.below hb2
  replace hr2 := Lib.hid hr2
  clear hr
  go_enter Tryd.func20, Tryd.ntmps20
  go_upto_region 1 with fail
  rw [← hW2.out]
  go_wp2_with fail
  refine (icopy_any k t a n cap fs _ hr2.out hn).mono ?_
  rintro e w6 ⟨a6, c6, rfl, hown, hb6⟩
  replace g0 := bcell hb6 g0
  replace g1 := bcell hb6 g1
  replace g2 := bcell hb6 g2
  replace i0 := bcell hb6 i0
  replace i1 := bcell hb6 i1
  replace i2 := bcell hb6 i2
  replace hfC := hfC.of_block (hb6.block _ hfC.lt)
  clear y0 y1 y2
  have y0 := hfC.frz 0 none
  have y1 := hfC.frz 1 none
  have y2 := hfC.frz 2 none
  have hbel6 := hb2.trans (hb6.mono hb2.size)
  have hfin := set3 hbel6
  have hob := owns_block hown
  replace hob := Lib.hid hob
  replace hfin := Lib.hid hfin
  replace hown := Lib.hid hown
  go_wp2_with fail
  refine bodyPost_ret (v := .tuple #[.agg #[.int .i64 k, .string t, .slice a6 n c6], .int .i64 91]) (by simp [results, Tryd.results20, go_sem, i0, i1, i2]) rfl ⟨a6, c6, rfl, ?_, hfin.out _ _ _⟩
  exact RF.of_owns (owns_fr hown.out (fr3 w.heap.size _ _ _ _) (fun q hq => by have h1 := (hob.out q hq).1; show ¬ (q = w.heap.size + 1); have := hs2; omega))
set_option maxRecDepth 100000 in
set_option maxHeartbeats 3200000 in
theorem iappend_big (k : Int) (hk : k ≠ 2) (t : ByteArray) (a : Option Addr) (n cap : Nat) (s : ByteArray) (w : World) (ht : t.size ≤ 4096) (hbig : 4096 < t.size + s.size) :
    Calls Tryd.prog 20 #[.agg #[.int .i64 k, .string t, .slice a n cap], .string s] w fun e w' => e = .returned (.tuple #[.agg #[.int .i64 k, .string t, .slice a n cap], .int .i64 94]) ∧ Below w.heap.size w w' := by
  have hk2 : (k == 2) = false := by simpa using hk
  replace hk := Lib.hid hk
  have h1 : (t.size : Int) ≤ 4096 := by omega
  have h2 : IntKind.i64.wrap (4096 - (t.size : Int)) = 4096 - (t.size : Int) := IntWalk.i64_in _ (by omega)
  have h3 : 4096 - (t.size : Int) < (s.size : Int) := by omega
  have h4 : min (t.size : Int) 4096 = (t.size : Int) := by omega
  obtain ⟨W2, hW2⟩ : ∃ W2, W2 = (w.alloc (.cells #[.int .i64 k, .string t, .slice a n cap] 24)).alloc (.cells #[.int .i64 0, .string ⟨#[]⟩, .slice none 0 0] 24) := ⟨_, rfl⟩
  have hb2 : Below w.heap.size w W2 := by rw [hW2]; exact ((Below.refl _ _).alloc (Nat.le_refl _) _).alloc (by simp) _
  have hs2 : W2.heap.size = w.heap.size + 2 := by rw [hW2]; simp
  have hB : ∀ q u, #[.int .i64 k, .string t, .slice a n cap][q]? = some u → W2.cell? ⟨w.heap.size, q, none⟩ = some u := fun q u h => by rw [hW2, World.cell?_alloc_past _ _ _ (by simp), World.cell?_alloc_new]; exact h
  have hC : ∀ q u, #[.int .i64 0, .string ⟨#[]⟩, .slice none 0 0][q]? = some u → W2.cell? ⟨w.heap.size + 1, q, none⟩ = some u := fun q u h => by
    rw [hW2, show w.heap.size + 1 = (w.alloc (.cells #[.int .i64 k, .string t, .slice a n cap] 24)).heap.size by simp, World.cell?_alloc_new]; exact h
  have hfC : Blk W2 (w.heap.size + 1) := by rw [hW2, show w.heap.size + 1 = (w.alloc (.cells #[.int .i64 k, .string t, .slice a n cap] 24)).heap.size by simp]; exact Blk.new _ _ _
  have g0 : W2.cell? ⟨w.heap.size, 0, none⟩ = some (.int .i64 k) := hB 0 _ rfl
  have g1 : W2.cell? ⟨w.heap.size, 1, none⟩ = some (.string t) := hB 1 _ rfl
  have g2 : W2.cell? ⟨w.heap.size, 2, none⟩ = some (.slice a n cap) := hB 2 _ rfl
  have i0 : W2.cell? ⟨w.heap.size + 1, 0, none⟩ = some (.int .i64 0) := hC 0 _ rfl
  have i1 : W2.cell? ⟨w.heap.size + 1, 1, none⟩ = some (.string ⟨#[]⟩) := hC 1 _ rfl
  have i2 : W2.cell? ⟨w.heap.size + 1, 2, none⟩ = some (.slice none 0 0) := hC 2 _ rfl
  have y0 := hfC.frz 0 none
  have y1 := hfC.frz 1 none
  have y2 := hfC.frz 2 none
  replace hW2 := Lib.hid hW2
  clear hB hC
  have hfin := set3 hb2
  replace hfin := Lib.hid hfin
  go_enter Tryd.func20, Tryd.ntmps20
  go_upto_region 1 with fail
  rw [← hW2.out]
  go_wp2_with fail
  refine bodyPost_ret (v := .tuple #[.agg #[.int .i64 k, .string t, .slice a n cap], .int .i64 94]) (by simp [results, Tryd.results20, go_sem, i0, i1, i2]) rfl ⟨rfl, hfin.out _ _ _⟩
set_option maxRecDepth 100000 in
set_option maxHeartbeats 3200000 in
theorem iappend_in (k : Int) (hk : k ≠ 2) (t : ByteArray) (a : Option Addr) (n cap : Nat) (s : ByteArray) (w : World) (hin : t.size + s.size ≤ 4096) :
    Calls Tryd.prog 20 #[.agg #[.int .i64 k, .string t, .slice a n cap], .string s] w fun e w' => e = .returned (.tuple #[.agg #[.int .i64 1, .string (t ++ s), .slice none 0 0], .int .i64 0]) ∧ Below w.heap.size w w' := by
  have hk2 : (k == 2) = false := by simpa using hk
  replace hk := Lib.hid hk
  have h1 : (t.size : Int) ≤ 4096 := by omega
  have h2 : IntKind.i64.wrap (4096 - (t.size : Int)) = 4096 - (t.size : Int) := IntWalk.i64_in _ (by omega)
  have h3 : ¬ 4096 - (t.size : Int) < (s.size : Int) := by omega
  have h4 : min (t.size : Int) 4096 = (t.size : Int) := by omega
  obtain ⟨W2, hW2⟩ : ∃ W2, W2 = (w.alloc (.cells #[.int .i64 k, .string t, .slice a n cap] 24)).alloc (.cells #[.int .i64 0, .string ⟨#[]⟩, .slice none 0 0] 24) := ⟨_, rfl⟩
  have hb2 : Below w.heap.size w W2 := by rw [hW2]; exact ((Below.refl _ _).alloc (Nat.le_refl _) _).alloc (by simp) _
  have hs2 : W2.heap.size = w.heap.size + 2 := by rw [hW2]; simp
  have hB : ∀ q u, #[.int .i64 k, .string t, .slice a n cap][q]? = some u → W2.cell? ⟨w.heap.size, q, none⟩ = some u := fun q u h => by rw [hW2, World.cell?_alloc_past _ _ _ (by simp), World.cell?_alloc_new]; exact h
  have hC : ∀ q u, #[.int .i64 0, .string ⟨#[]⟩, .slice none 0 0][q]? = some u → W2.cell? ⟨w.heap.size + 1, q, none⟩ = some u := fun q u h => by
    rw [hW2, show w.heap.size + 1 = (w.alloc (.cells #[.int .i64 k, .string t, .slice a n cap] 24)).heap.size by simp, World.cell?_alloc_new]; exact h
  have hfC : Blk W2 (w.heap.size + 1) := by rw [hW2, show w.heap.size + 1 = (w.alloc (.cells #[.int .i64 k, .string t, .slice a n cap] 24)).heap.size by simp]; exact Blk.new _ _ _
  have g0 : W2.cell? ⟨w.heap.size, 0, none⟩ = some (.int .i64 k) := hB 0 _ rfl
  have g1 : W2.cell? ⟨w.heap.size, 1, none⟩ = some (.string t) := hB 1 _ rfl
  have g2 : W2.cell? ⟨w.heap.size, 2, none⟩ = some (.slice a n cap) := hB 2 _ rfl
  have i0 : W2.cell? ⟨w.heap.size + 1, 0, none⟩ = some (.int .i64 0) := hC 0 _ rfl
  have i1 : W2.cell? ⟨w.heap.size + 1, 1, none⟩ = some (.string ⟨#[]⟩) := hC 1 _ rfl
  have i2 : W2.cell? ⟨w.heap.size + 1, 2, none⟩ = some (.slice none 0 0) := hC 2 _ rfl
  have y0 := hfC.frz 0 none
  have y1 := hfC.frz 1 none
  have y2 := hfC.frz 2 none
  replace hW2 := Lib.hid hW2
  clear hB hC
  go_enter Tryd.func20, Tryd.ntmps20
  go_upto_region 1 with fail
  rw [← hW2.out]
  go_wp2_with fail
  refine (itext_any _ _).mono ?_
  rintro e w6 ⟨rfl, hb6⟩
  replace g0 := bcell hb6 g0
  replace g1 := bcell hb6 g1
  replace g2 := bcell hb6 g2
  replace i0 := bcell hb6 i0
  replace i1 := bcell hb6 i1
  replace i2 := bcell hb6 i2
  replace hfC := hfC.of_block (hb6.block _ hfC.lt)
  clear y0 y1 y2
  have y0 := hfC.frz 0 none
  have y1 := hfC.frz 1 none
  have y2 := hfC.frz 2 none
  have hbel := hb2.trans (hb6.mono hb2.size)
  have hfin := set3 hbel
  replace hfin := Lib.hid hfin
  go_wp2_with fail
  refine bodyPost_ret (v := .tuple #[.agg #[.int .i64 1, .string (t ++ s), .slice none 0 0], .int .i64 0]) (by simp [results, Tryd.results20, go_sem, i0, i1, i2]) rfl ⟨rfl, hfin.out _ _ _⟩
set_option maxRecDepth 100000 in
set_option maxHeartbeats 3200000 in
theorem rappend_hash (k : Int) (hk : k = 2) (t : ByteArray) (a : Option Addr) (n cap : Nat) (s : ByteArray) (w : World) :
    Calls Tryd.prog 21 #[.agg #[.int .i64 k, .string t, .slice a n cap], .string s] w fun e w' => e = .returned (.tuple #[.agg #[.int .i64 k, .string t, .slice a n cap], .int .i64 91]) ∧ Below w.heap.size w w' := by
  have hk2 : (k == 2) = true := by simpa using hk
  replace hk := Lib.hid hk
  obtain ⟨W2, hW2⟩ : ∃ W2, W2 = (w.alloc (.cells #[.int .i64 k, .string t, .slice a n cap] 24)).alloc (.cells #[.int .i64 0, .string ⟨#[]⟩, .slice none 0 0] 24) := ⟨_, rfl⟩
  have hb2 : Below w.heap.size w W2 := by rw [hW2]; exact ((Below.refl _ _).alloc (Nat.le_refl _) _).alloc (by simp) _
  have hs2 : W2.heap.size = w.heap.size + 2 := by rw [hW2]; simp
  have hB : ∀ q u, #[.int .i64 k, .string t, .slice a n cap][q]? = some u → W2.cell? ⟨w.heap.size, q, none⟩ = some u := fun q u h => by rw [hW2, World.cell?_alloc_past _ _ _ (by simp), World.cell?_alloc_new]; exact h
  have hC : ∀ q u, #[.int .i64 0, .string ⟨#[]⟩, .slice none 0 0][q]? = some u → W2.cell? ⟨w.heap.size + 1, q, none⟩ = some u := fun q u h => by
    rw [hW2, show w.heap.size + 1 = (w.alloc (.cells #[.int .i64 k, .string t, .slice a n cap] 24)).heap.size by simp, World.cell?_alloc_new]; exact h
  have hfC : Blk W2 (w.heap.size + 1) := by rw [hW2, show w.heap.size + 1 = (w.alloc (.cells #[.int .i64 k, .string t, .slice a n cap] 24)).heap.size by simp]; exact Blk.new _ _ _
  have g0 : W2.cell? ⟨w.heap.size, 0, none⟩ = some (.int .i64 k) := hB 0 _ rfl
  have g1 : W2.cell? ⟨w.heap.size, 1, none⟩ = some (.string t) := hB 1 _ rfl
  have g2 : W2.cell? ⟨w.heap.size, 2, none⟩ = some (.slice a n cap) := hB 2 _ rfl
  have i0 : W2.cell? ⟨w.heap.size + 1, 0, none⟩ = some (.int .i64 0) := hC 0 _ rfl
  have i1 : W2.cell? ⟨w.heap.size + 1, 1, none⟩ = some (.string ⟨#[]⟩) := hC 1 _ rfl
  have i2 : W2.cell? ⟨w.heap.size + 1, 2, none⟩ = some (.slice none 0 0) := hC 2 _ rfl
  have y0 := hfC.frz 0 none
  have y1 := hfC.frz 1 none
  have y2 := hfC.frz 2 none
  replace hW2 := Lib.hid hW2
  clear hB hC
  have hfin := set3 hb2
  replace hfin := Lib.hid hfin
  go_enter Tryd.func21, Tryd.ntmps21
  go_upto_region 1 with fail
  rw [← hW2.out]
  go_wp2_with fail
  refine bodyPost_ret (v := .tuple #[.agg #[.int .i64 k, .string t, .slice a n cap], .int .i64 91]) (by simp [results, Tryd.results21, go_sem, i0, i1, i2]) rfl ⟨rfl, hfin.out _ _ _⟩
set_option maxRecDepth 100000 in
set_option maxHeartbeats 3200000 in
theorem rappend_big (k : Int) (hk : k ≠ 2) (t : ByteArray) (a : Option Addr) (n cap : Nat) (s : ByteArray) (w : World) (ht : t.size ≤ 4096) (hs : s.size ≤ 5000) (hbig : 4096 < t.size + s.size) :
    Calls Tryd.prog 21 #[.agg #[.int .i64 k, .string t, .slice a n cap], .string s] w fun e w' => e = .returned (.tuple #[.agg #[.int .i64 k, .string t, .slice a n cap], .int .i64 94]) ∧ Below w.heap.size w w' := by
  have hk2 : (k == 2) = false := by simpa using hk
  replace hk := Lib.hid hk
  have h3 : (4096 : Int) < (t.size : Int) + (s.size : Int) := by omega
  obtain ⟨W2, hW2⟩ : ∃ W2, W2 = (w.alloc (.cells #[.int .i64 k, .string t, .slice a n cap] 24)).alloc (.cells #[.int .i64 0, .string ⟨#[]⟩, .slice none 0 0] 24) := ⟨_, rfl⟩
  have hb2 : Below w.heap.size w W2 := by rw [hW2]; exact ((Below.refl _ _).alloc (Nat.le_refl _) _).alloc (by simp) _
  have hs2 : W2.heap.size = w.heap.size + 2 := by rw [hW2]; simp
  have hB : ∀ q u, #[.int .i64 k, .string t, .slice a n cap][q]? = some u → W2.cell? ⟨w.heap.size, q, none⟩ = some u := fun q u h => by rw [hW2, World.cell?_alloc_past _ _ _ (by simp), World.cell?_alloc_new]; exact h
  have hC : ∀ q u, #[.int .i64 0, .string ⟨#[]⟩, .slice none 0 0][q]? = some u → W2.cell? ⟨w.heap.size + 1, q, none⟩ = some u := fun q u h => by
    rw [hW2, show w.heap.size + 1 = (w.alloc (.cells #[.int .i64 k, .string t, .slice a n cap] 24)).heap.size by simp, World.cell?_alloc_new]; exact h
  have hfC : Blk W2 (w.heap.size + 1) := by rw [hW2, show w.heap.size + 1 = (w.alloc (.cells #[.int .i64 k, .string t, .slice a n cap] 24)).heap.size by simp]; exact Blk.new _ _ _
  have g0 : W2.cell? ⟨w.heap.size, 0, none⟩ = some (.int .i64 k) := hB 0 _ rfl
  have g1 : W2.cell? ⟨w.heap.size, 1, none⟩ = some (.string t) := hB 1 _ rfl
  have g2 : W2.cell? ⟨w.heap.size, 2, none⟩ = some (.slice a n cap) := hB 2 _ rfl
  have i0 : W2.cell? ⟨w.heap.size + 1, 0, none⟩ = some (.int .i64 0) := hC 0 _ rfl
  have i1 : W2.cell? ⟨w.heap.size + 1, 1, none⟩ = some (.string ⟨#[]⟩) := hC 1 _ rfl
  have i2 : W2.cell? ⟨w.heap.size + 1, 2, none⟩ = some (.slice none 0 0) := hC 2 _ rfl
  have y0 := hfC.frz 0 none
  have y1 := hfC.frz 1 none
  have y2 := hfC.frz 2 none
  replace hW2 := Lib.hid hW2
  clear hB hC
  have hfin := set3 hb2
  replace hfin := Lib.hid hfin
  go_enter Tryd.func21, Tryd.ntmps21
  go_upto_region 1 with fail
  rw [← hW2.out]
  go_wp2_with fail
  refine bodyPost_ret (v := .tuple #[.agg #[.int .i64 k, .string t, .slice a n cap], .int .i64 94]) (by simp [results, Tryd.results21, go_sem, i0, i1, i2]) rfl ⟨rfl, hfin.out _ _ _⟩
set_option maxRecDepth 100000 in
set_option maxHeartbeats 3200000 in
theorem rappend_in (k : Int) (hk : k ≠ 2) (t : ByteArray) (a : Option Addr) (n cap : Nat) (s : ByteArray) (w : World) (hin : t.size + s.size ≤ 4096) :
    Calls Tryd.prog 21 #[.agg #[.int .i64 k, .string t, .slice a n cap], .string s] w fun e w' => e = .returned (.tuple #[.agg #[.int .i64 1, .string (t ++ s), .slice none 0 0], .int .i64 0]) ∧ Below w.heap.size w w' := by
  have hk2 : (k == 2) = false := by simpa using hk
  replace hk := Lib.hid hk
  have h3 : ¬ (4096 : Int) < (t.size : Int) + (s.size : Int) := by omega
  obtain ⟨W2, hW2⟩ : ∃ W2, W2 = (w.alloc (.cells #[.int .i64 k, .string t, .slice a n cap] 24)).alloc (.cells #[.int .i64 0, .string ⟨#[]⟩, .slice none 0 0] 24) := ⟨_, rfl⟩
  have hb2 : Below w.heap.size w W2 := by rw [hW2]; exact ((Below.refl _ _).alloc (Nat.le_refl _) _).alloc (by simp) _
  have hs2 : W2.heap.size = w.heap.size + 2 := by rw [hW2]; simp
  have hB : ∀ q u, #[.int .i64 k, .string t, .slice a n cap][q]? = some u → W2.cell? ⟨w.heap.size, q, none⟩ = some u := fun q u h => by rw [hW2, World.cell?_alloc_past _ _ _ (by simp), World.cell?_alloc_new]; exact h
  have hC : ∀ q u, #[.int .i64 0, .string ⟨#[]⟩, .slice none 0 0][q]? = some u → W2.cell? ⟨w.heap.size + 1, q, none⟩ = some u := fun q u h => by
    rw [hW2, show w.heap.size + 1 = (w.alloc (.cells #[.int .i64 k, .string t, .slice a n cap] 24)).heap.size by simp, World.cell?_alloc_new]; exact h
  have hfC : Blk W2 (w.heap.size + 1) := by rw [hW2, show w.heap.size + 1 = (w.alloc (.cells #[.int .i64 k, .string t, .slice a n cap] 24)).heap.size by simp]; exact Blk.new _ _ _
  have g0 : W2.cell? ⟨w.heap.size, 0, none⟩ = some (.int .i64 k) := hB 0 _ rfl
  have g1 : W2.cell? ⟨w.heap.size, 1, none⟩ = some (.string t) := hB 1 _ rfl
  have g2 : W2.cell? ⟨w.heap.size, 2, none⟩ = some (.slice a n cap) := hB 2 _ rfl
  have i0 : W2.cell? ⟨w.heap.size + 1, 0, none⟩ = some (.int .i64 0) := hC 0 _ rfl
  have i1 : W2.cell? ⟨w.heap.size + 1, 1, none⟩ = some (.string ⟨#[]⟩) := hC 1 _ rfl
  have i2 : W2.cell? ⟨w.heap.size + 1, 2, none⟩ = some (.slice none 0 0) := hC 2 _ rfl
  have y0 := hfC.frz 0 none
  have y1 := hfC.frz 1 none
  have y2 := hfC.frz 2 none
  replace hW2 := Lib.hid hW2
  clear hB hC
  have hfin := set3 hb2
  replace hfin := Lib.hid hfin
  go_enter Tryd.func21, Tryd.ntmps21
  go_upto_region 1 with fail
  rw [← hW2.out]
  go_wp2_with fail
  refine bodyPost_ret (v := .tuple #[.agg #[.int .i64 1, .string (t ++ s), .slice none 0 0], .int .i64 0]) (by simp [results, Tryd.results21, go_sem, i0, i1, i2]) rfl ⟨rfl, hfin.out _ _ _⟩

def FitsP (k : Int) (t : ByteArray) (fs : List Fld) : Prop := RightP k t fs ∨ k = 0 ∧ t = ⟨#[]⟩ ∧ fs = []
set_option maxRecDepth 100000 in
set_option maxHeartbeats 3200000 in
theorem fits_any (k : Int) (t : ByteArray) (a : Option Addr) (n cap : Nat) (fs : List Fld) (w : World) (hr : RF w a n cap fs) (hn : n ≤ 100000000) :
    Calls Tryd.prog 19 #[.agg #[.int .i64 k, .string t, .slice a n cap]] w (QP w (FitsP k t fs)) := by
  have hl := hr.len
  have hal := (Below.refl w.heap.size w).alloc (Nat.le_refl _) (.cells #[.int .i64 k, .string t, .slice a n cap] 24)
  have hx := hr.below hal
  have g0 := World.cell?_alloc_new w #[.int .i64 k, .string t, .slice a n cap] 24 0
  have g1 := World.cell?_alloc_new w #[.int .i64 k, .string t, .slice a n cap] 24 1
  have g2 := World.cell?_alloc_new w #[.int .i64 k, .string t, .slice a n cap] 24 2
  obtain ⟨q, hq⟩ : ∃ q : Bool, q = true ↔ RightP k t fs := by
    by_cases h : RightP k t fs
    · exact ⟨true, by simp [h]⟩
    · exact ⟨false, by simp [h]⟩
  have hrr := qp_q (rright_any k t a n cap fs _ hx hn) hq
  replace hrr := Lib.hid hrr
  replace hal := Lib.hid hal
  replace hl := Lib.hid hl
  replace g0 := Lib.hid g0
  replace g1 := Lib.hid g1
  replace g2 := Lib.hid g2
  clear hr hx
  cases q with
  | true =>
    have hp : FitsP k t fs := Or.inl (hq.1 rfl)
    replace hp := Lib.hid hp
    clear hq
    go_enter Tryd.func19, Tryd.ntmps19
    go_wp2_with fail
    refine hrr.out.mono ?_
    rintro e w1 ⟨rfl, hb1⟩
    have hbel := hal.out.trans (hb1.mono hal.out.size)
    clear hb1
    go_wp2
    go_ret
    exact qp_true rfl hp.out hbel
  | false =>
    have hp : FitsP k t fs ↔ k = 0 ∧ t = ⟨#[]⟩ ∧ n = 0 := by
      unfold FitsP
      rw [← hl.out, List.length_eq_zero_iff]
      constructor
      · rintro (h | h)
        · have := hq.2 h; cases this
        · exact h
      · exact Or.inr
    replace hp := Lib.hid hp
    clear hq
    by_cases k0 : k = 0
    case neg =>
      have k0' : (k == 0) = false := by simpa using k0
      replace k0 := Lib.hid k0
      go_enter Tryd.func19, Tryd.ntmps19
      go_wp2_with fail
      refine hrr.out.mono ?_
      rintro e w1 ⟨rfl, hb1⟩
      have hbel := hal.out.trans (hb1.mono hal.out.size)
      have h0 : w1.cell? ⟨w.heap.size, 0, none⟩ = some (.int .i64 k) := bcell hb1 g0.out
      clear hb1
      go_wp2
      go_ret
      exact qp_false rfl (fun h => k0.out (hp.out.1 h).1) hbel
    have k0' : (k == 0) = true := by simpa using k0
    replace k0 := Lib.hid k0
    by_cases t0 : t = ⟨#[]⟩
    case neg =>
      obtain ⟨c1a, c1b, c1c⟩ := empty_facts t0
      replace t0 := Lib.hid t0
      go_enter Tryd.func19, Tryd.ntmps19
      go_wp2_with fail
      refine hrr.out.mono ?_
      rintro e w1 ⟨rfl, hb1⟩
      have hbel := hal.out.trans (hb1.mono hal.out.size)
      have h0 : w1.cell? ⟨w.heap.size, 0, none⟩ = some (.int .i64 k) := bcell hb1 g0.out
      have h1 : w1.cell? ⟨w.heap.size, 1, none⟩ = some (.string t) := bcell hb1 g1.out
      clear hb1
      go_wp2
      go_ret
      exact qp_false rfl (fun h => t0.out (hp.out.1 h).2.1) hbel
    subst t0
    by_cases n0 : n = 0
    · have n0' : ((n : Int) == 0) = true := by simp [n0]
      replace n0 := Lib.hid n0
      go_enter Tryd.func19, Tryd.ntmps19
      go_wp2_with fail
      refine hrr.out.mono ?_
      rintro e w1 ⟨rfl, hb1⟩
      have hbel := hal.out.trans (hb1.mono hal.out.size)
      have h0 : w1.cell? ⟨w.heap.size, 0, none⟩ = some (.int .i64 k) := bcell hb1 g0.out
      have h1 : w1.cell? ⟨w.heap.size, 1, none⟩ = some (.string ⟨#[]⟩) := bcell hb1 g1.out
      have h2 : w1.cell? ⟨w.heap.size, 2, none⟩ = some (.slice a n cap) := bcell hb1 g2.out
      clear hb1
      go_wp2
      go_ret
      exact qp_true rfl (hp.out.2 ⟨k0.out, by trivial, n0.out⟩) hbel
    · have n0' : ((n : Int) == 0) = false := by simp [n0]
      replace n0 := Lib.hid n0
      go_enter Tryd.func19, Tryd.ntmps19
      go_wp2_with fail
      refine hrr.out.mono ?_
      rintro e w1 ⟨rfl, hb1⟩
      have hbel := hal.out.trans (hb1.mono hal.out.size)
      have h0 : w1.cell? ⟨w.heap.size, 0, none⟩ = some (.int .i64 k) := bcell hb1 g0.out
      have h1 : w1.cell? ⟨w.heap.size, 1, none⟩ = some (.string ⟨#[]⟩) := bcell hb1 g1.out
      have h2 : w1.cell? ⟨w.heap.size, 2, none⟩ = some (.slice a n cap) := bcell hb1 g2.out
      clear hb1
      go_wp2
      go_ret
      exact qp_false rfl (fun h => n0.out (hp.out.1 h).2.2) hbel
end Go.Proofs.YteoalcmhdoopnaaDoor
