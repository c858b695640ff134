/- wordsAlive. -/
import Derived.Test.YtdhojdkeidilfaaDoorCheck
namespace Go.Proofs.YtdhojdkeidilfaaDoor
open Go.RowKit

theorem reads_new (ks : List ByteArray) (n : Nat) (hn : ks.length = n) (w : World) : Reads (w.alloc (.cells (ks.map Value.string).toArray 9)) 1 (.slice (some ⟨w.heap.size, 0, none⟩) n n) n (ks.map Value.string) :=
  ⟨_, _, rfl, by simp [hn], fun j u h => ⟨w.heap.size, 0, rfl, by rw [Nat.zero_add, World.cell?_alloc_new]; simpa using h⟩⟩
theorem new7 (s : Spec) (w : World) : (w.alloc (.cells #[.string s.name, .int .i64 s.kind, .int .i64 s.least, .int .i64 s.most, .int .i64 s.first, .int .i64 s.last, .int .i64 s.step] 26)).rangeAt w.heap.size 0 s.cells := fun j u hj => by rw [Nat.zero_add, World.cell?_alloc_new]; simpa [Spec.cells] using hj
theorem cells7 {w : World} {b : Nat} (s : Spec) (h : w.rangeAt b 0 s.cells) :
    w.cell? ⟨b, 0, none⟩ = some (.string s.name) ∧ w.cell? ⟨b, 1, none⟩ = some (.int .i64 s.kind) ∧ w.cell? ⟨b, 2, none⟩ = some (.int .i64 s.least) ∧ w.cell? ⟨b, 3, none⟩ = some (.int .i64 s.most) ∧
    w.cell? ⟨b, 4, none⟩ = some (.int .i64 s.first) ∧ w.cell? ⟨b, 5, none⟩ = some (.int .i64 s.last) ∧ w.cell? ⟨b, 6, none⟩ = some (.int .i64 s.step) := by
  have k : ∀ (q : Nat) (v : Value), (s.cells)[q]? = some v → w.cell? ⟨b, q, none⟩ = some v := fun q v hv => by have := h q v hv; rwa [Nat.zero_add] at this
  exact ⟨k 0 _ rfl, k 1 _ rfl, k 2 _ rfl, k 3 _ rfl, k 4 _ rfl, k 5 _ rfl, k 6 _ rfl⟩
abbrev kget : ByteArray := ⟨#[103, 101, 116]⟩
abbrev kGet : ByteArray := ⟨#[71, 101, 116]⟩
abbrev kk : ByteArray := ⟨#[107]⟩
abbrev sGET : Spec := ⟨⟨#[71, 69, 84]⟩, 1, 2, 2, 1, 1, 1⟩
theorem check_get : checkF [kget] = (zeroSpec, ⟨#[69, 82, 82, 32, 119, 114, 111, 110, 103, 32, 110, 117, 109, 98, 101, 114, 32, 111, 102, 32, 97, 114, 103, 117, 109, 101, 110, 116, 115, 32, 102, 111, 114, 32, 103, 101, 116]⟩) := by kernel_rfl
theorem check_Get : checkF [kGet, kk] = (sGET, ⟨#[]⟩) := by kernel_rfl
set_option maxRecDepth 100000 in
set_option maxHeartbeats 1600000 in
theorem alive17_any (w : World) : Calls Tryd.prog 10 #[] w fun e w' => e = .returned (.bool true) ∧ Below w.heap.size w w' := by
  have hb0 := (Below.refl w.heap.size w).alloc (Nat.le_refl _) (.cells #[.string kget] 9)
  have r0 := reads_new [kget] 1 rfl w
  go_enter Tryd.func10, Tryd.ntmps10
  go_wp2_with fail
  refine (check17_any r0 (by decide) (by decide)).mono ?_
  rintro e w1 ⟨he, hb1⟩
  rw [check_get] at he
  replace he : e = .returned (.tuple #[.agg #[.string ⟨#[]⟩, .int .i64 0, .int .i64 0, .int .i64 0, .int .i64 0, .int .i64 0, .int .i64 0], .string ⟨#[69, 82, 82, 32, 119, 114, 111, 110, 103, 32, 110, 117, 109, 98, 101, 114, 32, 111, 102, 32, 97, 114, 103, 117, 109, 101, 110, 116, 115, 32, 102, 111, 114, 32, 103, 101, 116]⟩]) := he
  subst he
  have hb01 := hb0.trans (hb1.mono hb0.size)
  clear hb1 hb0 r0
  go_wp2_with fail
  have hz := new7 zeroSpec w1
  have hb2 := (Below.refl w1.heap.size w1).alloc (Nat.le_refl _) (.cells #[.string ⟨#[]⟩, .int .i64 0, .int .i64 0, .int .i64 0, .int .i64 0, .int .i64 0, .int .i64 0] 26)
  have hs2 : (w1.alloc (.cells #[.string ⟨#[]⟩, .int .i64 0, .int .i64 0, .int .i64 0, .int .i64 0, .int .i64 0, .int .i64 0] 26)).heap.size = w1.heap.size + 1 := by simp
  have r1 := reads_new [kGet, kk] 2 rfl (w1.alloc (.cells #[.string ⟨#[]⟩, .int .i64 0, .int .i64 0, .int .i64 0, .int .i64 0, .int .i64 0, .int .i64 0] 26))
  have hb3 := (Below.refl (w1.alloc (.cells #[.string ⟨#[]⟩, .int .i64 0, .int .i64 0, .int .i64 0, .int .i64 0, .int .i64 0, .int .i64 0] 26)).heap.size (w1.alloc (.cells #[.string ⟨#[]⟩, .int .i64 0, .int .i64 0, .int .i64 0, .int .i64 0, .int .i64 0, .int .i64 0] 26))).alloc (Nat.le_refl _) (.cells #[.string kGet, .string kk] 9)
  rw [hs2] at r1
  refine (check17_any r1 (by decide) (by decide)).mono ?_
  rintro e w4 ⟨he, hb4⟩
  rw [check_Get] at he
  replace he : e = .returned (.tuple #[.agg #[.string ⟨#[71, 69, 84]⟩, .int .i64 1, .int .i64 2, .int .i64 2, .int .i64 1, .int .i64 1, .int .i64 1], .string ⟨#[]⟩]) := he
  subst he
  have hb5 := (Below.refl w4.heap.size w4).alloc (Nat.le_refl _) (.cells #[.string ⟨#[71, 69, 84]⟩, .int .i64 1, .int .i64 2, .int .i64 2, .int .i64 1, .int .i64 1, .int .i64 1] 26)
  obtain ⟨z0, z1, z2, z3, z4, z5, z6⟩ := cells7 zeroSpec (range_below hb5 (range_below hb4 (range_below hb3 hz)))
  obtain ⟨g0, g1, g2, g3, g4, g5, g6⟩ := cells7 sGET (new7 sGET w4)
  have hb12 := hb01.trans (hb2.mono hb01.size)
  have hb13 := hb12.trans (hb3.mono hb12.size)
  have hb14 := hb13.trans (hb4.mono hb13.size)
  have hb15 := hb14.trans (hb5.mono hb14.size)
  clear hb01 hb2 hb3 hb4 hb5 hb12 hb13 hb14 hz r1 hs2
  replace hb15 := Lib.hid hb15
  go_wp2
  go_ret
  exact ⟨rfl, hb15.out⟩
end Go.Proofs.YtdhojdkeidilfaaDoor
