/- real.Parse where the text is a number's and is read without an error; real.Add; the chapter's example. -/
import Derived.Test.YtgpfjhligiapdaaGreatDoorAtof
import Derived.Test.YtgpfjhligiapdaaGreatDoorRight2
import Derived.Test.YtgpfjhligiapdaaGreatDoorJ12
namespace Go.Proofs.YtgpfjhligiapdaaGreatDoor
open Go.RowKit

theorem num_head {s : ByteArray} {neg : Bool} {c : UInt8} {l : List UInt8} (h : s.data.toList = (if neg then [45] else []) ++ c :: l) (hc : isD c = true) :
    (s.toList == [105, 110, 102]) = false ∧ (s.toList == [45, 105, 110, 102]) = false ∧ (s.toList == [110, 97, 110]) = false := by
  have key : ∀ x : UInt8, isD x = false → c ≠ x := fun x hx e => by rw [e, hx] at hc; cases hc
  have h1 := key 105 (by decide)
  have h2 := key 110 (by decide)
  rw [ByteArray.toList_eq, h]
  cases neg
  · refine ⟨?_, ?_, ?_⟩ <;> simp [h1, h2] <;> (intro e; exact absurd e (by have := key 45 (by decide); simpa using this))
  · refine ⟨?_, ?_, ?_⟩ <;> simp [h1, h2]
set_option maxRecDepth 100000 in
set_option maxHeartbeats 1600000 in
theorem parse_num {s : ByteArray} {neg : Bool} {c : UInt8} {l : List UInt8} {r : Nat} {w : World} (h : s.data.toList = (if neg then [45] else []) ++ c :: l) (hc : isD c = true) (hs : s.size ≤ 64) (hr : rightL s.data.toList = true)
    (hp : ∀ w', Below w.heap.size w w' → Calls Tryz.prog 23 #[.string s, .int .i64 64] w' fun e w'' => e = .returned (.tuple #[.float .f64 r, .nilIface]) ∧ w'' = w') :
    Calls Tryz.prog 10 #[.string s] w fun e w' => e = .returned (.tuple #[.float .f64 r, .int .i64 0]) ∧ Below w.heap.size w w' := by
  obtain ⟨k1, k2, k3⟩ := num_head h hc
  have hra := right_any (s := s) (by omega) w
  rw [hr] at hra
  have hsz : ¬ (64 : Int) < (s.size : Int) := by omega
  replace hra := Lib.hid hra
  replace hp := Lib.hid hp
  clear h hc hr
  go_enter Tryz.func10, Tryz.ntmps10
  go_wp2_with fail
  refine hra.out.mono ?_
  rintro e w1 ⟨rfl, hb⟩
  have hp1 := hp.out w1 hb
  replace hp1 := Lib.hid hp1
  go_wp2_with fail
  refine hp1.out.mono ?_
  rintro e w' ⟨rfl, hww⟩
  obtain rfl := hww.symm
  clear hww
  go_wp2
  go_ret2
  exact ⟨rfl, hb⟩
theorem Par.below {w w' : World} (h : Par w) (hb : Below w.heap.size w w') : Par w' := by
  obtain ⟨h1, h2, b, c, h3, h4⟩ := h
  exact ⟨cell_below hb _ _ h1, cell_below hb _ _ h2, b, c, cell_below hb _ _ h3, fun i z hz => by
    have h5 := h4 i z hz
    exact (hb.cell (World.block_lt_of_cell? _ _ h5)).trans h5⟩
theorem Flo.below {w w' : World} (h : Flo w) (hb : Below w.heap.size w w') : Flo w' := ⟨h.pows.below hb h.pows.lt, Go.Joins.tab_stays tens_named h.tens hb (Nat.le_refl _)⟩
/-- One digit behind '0.'. -/
theorem tenth_txt (c : UInt8) (hc : isD c = true) (h0 : c ≠ 48) : FTxt ⟨#[48, 46, c]⟩ false true [48, c] 1 0 := by
  have h46 : c.toNat ≠ 46 := fun e => by rw [isD, e] at hc; cases hc
  refine ⟨⟨48, [46, c], [], rfl, by decide, ?_, .none, ?_⟩, by show (3 : Nat) ≤ 1000; omega, by simp⟩
  · simp only [scanM]
    rw [if_neg (by decide), if_pos (by decide), if_pos (by decide), if_neg (by decide), if_neg h46, if_pos hc]
    rfl
  · intro b hb
    simp only [List.mem_cons, List.not_mem_nil, or_false] at hb
    rcases hb with rfl | rfl | rfl
    · exact .inl (by decide)
    · exact .inr (.inl (by decide))
    · exact .inl hc
theorem parse_tenth {w : World} (hP : Par w) : Calls Tryz.prog 10 #[.string ⟨#[48, 46, 49]⟩] w fun e w' => e = .returned (.tuple #[.float .f64 4591870180066957722, .int .i64 0]) ∧ Below w.heap.size w w' := by
  refine parse_num (neg := false) (c := 48) (l := [46, 49]) rfl (by decide) (by decide) (by decide +kernel) fun w' hb => ?_
  refine sparse_ok (atof_neg (neg := false) (i := 1) (z := 4621819117588971520) (tenth_txt 49 (by decide) (by decide)) (by decide +kernel) (by decide +kernel) (by decide +kernel) (by decide +kernel) (by omega) (by omega) rfl ?_ (hP.below hb))
  have : mantF [48, 49] = 1 := by decide +kernel
  rw [this]
  decide +kernel
theorem parse_two {w : World} (hP : Par w) : Calls Tryz.prog 10 #[.string ⟨#[48, 46, 50]⟩] w fun e w' => e = .returned (.tuple #[.float .f64 4596373779694328218, .int .i64 0]) ∧ Below w.heap.size w w' := by
  refine parse_num (neg := false) (c := 48) (l := [46, 50]) rfl (by decide) (by decide) (by decide +kernel) fun w' hb => ?_
  refine sparse_ok (atof_neg (neg := false) (i := 1) (z := 4621819117588971520) (tenth_txt 50 (by decide) (by decide)) (by decide +kernel) (by decide +kernel) (by decide +kernel) (by decide +kernel) (by omega) (by omega) rfl ?_ (hP.below hb))
  have : mantF [48, 50] = 2 := by decide +kernel
  rw [this]
  decide +kernel
end Go.Proofs.YtgpfjhligiapdaaGreatDoor
