/- The reader: Parse of the nil slice. -/
import Derived.Test.YtagkgfniihiinaaGreatDoorRdO
namespace Go.Proofs.YtagkgfniihiinaaGreatDoor
open Go.RowKit

set_option maxRecDepth 100000 in
set_option maxHeartbeats 3200000 in
theorem value_nilbuf {w : World} {g : Nat} {d : Int} (c0 : w.cell? ⟨g, 0, none⟩ = some (.slice none 0 0)) (c1 : w.cell? ⟨g, 1, none⟩ = some (.int .i64 0)) :
    Calls Tryz.prog 46 #[.pointer (some ⟨g, 0, none⟩), .int .i64 d] w fun e w' => e = stopE 0 ∧ Below w.heap.size w w' := by
  obtain ⟨W1, hW1⟩ : ∃ W1, W1 = w.alloc (.cells #[.int .i64 0, .string ⟨#[]⟩, .int .i64 0, .float .f64 0, .bool false, .slice none 0 0] 26) := ⟨_, rfl⟩
  have hb1 : Below w.heap.size w W1 := by rw [hW1]; exact (Below.refl _ _).alloc (Nat.le_refl _) _
  replace c0 := cell_below hb1 _ _ c0
  replace c1 := cell_below hb1 _ _ c1
  have hgl : g < W1.heap.size := World.block_lt_of_cell? W1 ⟨g, 0, none⟩ c0
  replace hW1 := Lib.hid hW1
  replace hb1 := Lib.hid hb1
  go_enter Tryz.func46, Tryz.ntmps46
  go_wp2_with fail
  rw [← hW1.out]
  refine wp_region_grow (by kernel_rfl) (by kernel_rfl) ?_
  repeat (go_big_quiet_step ((fail)))
  refine wpQuiet_nil ?_
  rintro _ ⟨xq, rfl⟩
  have hS := grow_below W1 xq
  go_wp2_with fail
  refine (wait_any _).mono ?_
  rintro e w' ⟨rfl, hww⟩
  obtain rfl := hww.symm
  exact ⟨rfl, rfl, hb1.out.trans (hS.mono hb1.out.size)⟩
/-- What Parse of nil begins with. -/
structure PN (w W : World) : Prop where
  r0 : W.rangeAt w.heap.size 0 [.int .i64 0, .string ⟨#[]⟩, .int .i64 0, .float .f64 0, .bool false, .slice none 0 0]
  k0 : Blk W w.heap.size
  c1 : W.cell? ⟨w.heap.size + 1, 0, none⟩ = some (.int .i64 0)
  k1 : Blk W (w.heap.size + 1)
  c2 : W.cell? ⟨w.heap.size + 1 + 1, 0, none⟩ = some (.int .i64 0)
  k2 : Blk W (w.heap.size + 1 + 1)
  f0 : W.cell? ⟨w.heap.size + 1 + 1 + 1, 0, none⟩ = some (.slice none 0 0)
  f1 : W.cell? ⟨w.heap.size + 1 + 1 + 1, 1, none⟩ = some (.int .i64 0)
  below : Below w.heap.size w W
theorem PN.start {w : World} {t1 t2 t3 : TypeId} :
    PN w ((((w.alloc (.cells #[.int .i64 0, .string ⟨#[]⟩, .int .i64 0, .float .f64 0, .bool false, .slice none 0 0] 26)).alloc (.cells #[.int .i64 0] t1)).alloc (.cells #[.int .i64 0] t2)).alloc (.cells #[.slice none 0 0, .int .i64 0, .int .i64 1] t3)) := by
  obtain ⟨W1, hW1⟩ : ∃ W1, W1 = w.alloc (.cells #[.int .i64 0, .string ⟨#[]⟩, .int .i64 0, .float .f64 0, .bool false, .slice none 0 0] 26) := ⟨_, rfl⟩
  obtain ⟨W2, hW2⟩ : ∃ W2, W2 = W1.alloc (.cells #[.int .i64 0] t1) := ⟨_, rfl⟩
  obtain ⟨W3, hW3⟩ : ∃ W3, W3 = W2.alloc (.cells #[.int .i64 0] t2) := ⟨_, rfl⟩
  obtain ⟨W4, hW4⟩ : ∃ W4, W4 = W3.alloc (.cells #[.slice none 0 0, .int .i64 0, .int .i64 1] t3) := ⟨_, rfl⟩
  rw [← hW1, ← hW2, ← hW3, ← hW4]
  have s1 : W1.heap.size = w.heap.size + 1 := by rw [hW1]; simp
  have s2 : W2.heap.size = w.heap.size + 1 + 1 := by rw [hW2]; simp [s1]
  have s3 : W3.heap.size = w.heap.size + 1 + 1 + 1 := by rw [hW3]; simp [s2]
  have b1 : Below w.heap.size w W1 := by rw [hW1]; exact (Below.refl _ _).alloc (Nat.le_refl _) _
  have b2 : Below W1.heap.size W1 W2 := by rw [hW2]; exact (Below.refl _ _).alloc (Nat.le_refl _) _
  have b3 : Below W2.heap.size W2 W3 := by rw [hW3]; exact (Below.refl _ _).alloc (Nat.le_refl _) _
  have b4 : Below W3.heap.size W3 W4 := by rw [hW4]; exact (Below.refl _ _).alloc (Nat.le_refl _) _
  have b34 := b3.trans (b4.mono b3.size)
  have b24 := b2.trans (b34.mono b2.size)
  have b14 := b1.trans (b24.mono b1.size)
  have r1 : W1.rangeAt w.heap.size 0 [.int .i64 0, .string ⟨#[]⟩, .int .i64 0, .float .f64 0, .bool false, .slice none 0 0] := by
    rw [hW1]; intro j y hj; rw [Nat.zero_add, World.cell?_alloc_new]; simpa using hj
  have k1 : Blk W1 w.heap.size := by rw [hW1]; exact Blk.new _ _ _
  have k2 : Blk W2 W1.heap.size := by rw [hW2]; exact Blk.new _ _ _
  have k3 : Blk W3 W2.heap.size := by rw [hW3]; exact Blk.new _ _ _
  have k4 : Blk W4 W3.heap.size := by rw [hW4]; exact Blk.new _ _ _
  have e2 : W2.cell? ⟨W1.heap.size, 0, none⟩ = some (.int .i64 0) := by rw [hW2, World.cell?_alloc_new]; rfl
  have e3 : W3.cell? ⟨W2.heap.size, 0, none⟩ = some (.int .i64 0) := by rw [hW3, World.cell?_alloc_new]; rfl
  have f0 : W4.cell? ⟨W3.heap.size, 0, none⟩ = some (.slice none 0 0) := by rw [hW4, World.cell?_alloc_new]; rfl
  have f1 : W4.cell? ⟨W3.heap.size, 1, none⟩ = some (.int .i64 0) := by rw [hW4, World.cell?_alloc_new]; rfl
  have f2 : W4.cell? ⟨W3.heap.size, 2, none⟩ = some (.int .i64 1) := by rw [hW4, World.cell?_alloc_new]; rfl
  have g2 := cell_below b34 _ _ e2
  have g3 := cell_below b4 _ _ e3
  have h2 := k2.of_block (b34.block _ k2.lt)
  have h3 := k3.of_block (b4.block _ k3.lt)
  rw [s1] at g2 h2
  rw [s2] at g3 h3
  rw [s3] at f0 f1 f2 k4
  exact ⟨fun j y hj => cell_below b24 _ _ (r1 j y hj), k1.of_block (b24.block _ k1.lt), g2, h2, g3, h3, f0, f1, b14⟩
set_option maxRecDepth 100000 in
set_option maxHeartbeats 3200000 in
theorem parse_nil (w : World) : Calls Tryz.prog 24 #[.slice none 0 0] w (ParseQ (.stop 0) w) := by
  have hmf : ∀ (fn : Fn) (first cap : Array Value) (w : World), (Instr.makeFunc fn first cap).run Tryz.prog w = .ok (.func fn first cap) w := fun _ _ _ _ => rfl
  go_enter_defers Tryz.func24, Tryz.ntmps24
  go_wp2_with fail
  have hP := PN.start (w := w) (t1 := 3) (t2 := 37) (t3 := 71)
  generalize (((w.alloc (.cells #[Value.int .i64 0, .string ⟨#[]⟩, .int .i64 0, .float .f64 0, .bool false, .slice none 0 0] 26)).alloc (.cells #[Value.int .i64 0] 3)).alloc (.cells #[Value.int .i64 0] 37)).alloc (.cells #[Value.slice none 0 0, .int .i64 0, .int .i64 1] 71) = W at hP ⊢
  refine (value_nilbuf hP.f0 hP.f1).mono fun e W8 he => ?_
  obtain ⟨rfl, hf8⟩ := he
  refine leaves_cons (f := 45) (args := #[.pointer (some ⟨w.heap.size, 0, none⟩), .pointer (some ⟨w.heap.size + 1, 0, none⟩), .pointer (some ⟨w.heap.size + 1 + 1, 0, none⟩)]) (by simp) (by simp [go_sem]) ?_
  refine (R2.catch_stop (w := W8) (B := w.heap.size) [] (fun j y hj => cell_below hf8 _ _ (hP.r0 j y hj)) (hP.k0.of_block (hf8.block _ hP.k0.lt)) (cell_below hf8 _ _ hP.c1) (hP.k1.of_block (hf8.block _ hP.k1.lt)) (cell_below hf8 _ _ hP.c2) (hP.k2.of_block (hf8.block _ hP.k2.lt))).mono ?_
  rintro e u' w'' ⟨rfl, rfl, hr9, c19, c29, hf9⟩
  have hb8 := hP.below.trans (hf8.mono hP.below.size)
  have hbel : Below w.heap.size w w'' := hb8.trans (hf9.below hb8.size (fun i hi e => by omega))
  have e0 := hr9 0 _ rfl
  have e1 := hr9 1 _ rfl
  have e2 := hr9 2 _ rfl
  have e3 := hr9 3 _ rfl
  have e4 := hr9 4 _ rfl
  have e5 := hr9 5 _ rfl
  simp only [Nat.zero_add] at e0 e1 e2 e3 e4 e5
  replace hbel := Lib.hid hbel
  simp [Leaves, settle, results, Tryz.results24, go_sem, e0, e1, e2, e3, e4, e5, c19, c29, ParseQ]
  exact hbel.out
end Go.Proofs.YtagkgfniihiinaaGreatDoor
