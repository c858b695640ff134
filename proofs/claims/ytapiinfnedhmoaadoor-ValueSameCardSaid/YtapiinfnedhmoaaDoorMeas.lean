/- Whether a value can be; how deep it is; how many there are in it. -/
import Derived.Test.YtapiinfnedhmoaaDoorRight
namespace Go.Proofs.YtapiinfnedhmoaaDoor
open Go.RowKit

def checkZ (v : V) : Int := if v.fine 8 = true ∧ v.count ≤ 1000 then 0 else 31
theorem check_any (v : V) (a : Option Addr) (cap : Nat) (w : World) (hv : RV w.cell? (cells6 v.kind v.text v.int v.real v.flag a v.list.length cap) v) (hs : v.sized) (hc : v.count ≤ 100000) :
    Calls Tryd.prog 11 #[.agg #[.int .i64 v.kind, .string v.text, .int .i64 v.int, .float .f64 v.real, .bool v.flag, .slice a v.list.length cap]] w fun e w' => e = .returned (.int .i64 (checkZ v)) ∧ Below w.heap.size w w' := by
  have hal := (Below.refl w.heap.size w).alloc (Nat.le_refl _) (.cells #[.int .i64 v.kind, .string v.text, .int .i64 v.int, .float .f64 v.real, .bool v.flag, .slice a v.list.length cap] 25)
  have hv' := hv.mono (cell_below hal)
  replace hv' := Lib.hid hv'
  replace hal := Lib.hid hal
  clear hv
  go_enter Tryd.func11, Tryd.ntmps11
  go_wp2_with fail
  refine (right_any v a cap 8 1000 _ hv'.out hs hc (by omega) (by omega) (by omega) (by omega)).mono ?_
  rintro e w1 ⟨rfl, hb⟩
  have hbel := hal.out.trans (hb.mono (by simp))
  clear hb
  by_cases h : v.fine 8 = true ∧ v.count ≤ 1000
  · have h1 : rightZ v 8 1000 = 1000 - v.count := by unfold rightZ; rw [if_pos ⟨h.1, by omega⟩]
    have h2 : checkZ v = 0 := by unfold checkZ; rw [if_pos h]
    have h3 := h.2
    rw [h1]
    replace h2 := Lib.hid h2
    clear h h1
    have h4 : ¬ ((1000 : Int) - v.count < 0) := by omega
    go_wp2
    go_ret
    exact ⟨by rw [h2.out]; rfl, hbel⟩
  · have h1 : rightZ v 8 1000 = -1 := by unfold rightZ; rw [if_neg (fun h' => h ⟨h'.1, by omega⟩)]
    have h2 : checkZ v = 31 := by unfold checkZ; rw [if_neg h]
    rw [h1]
    replace h2 := Lib.hid h2
    clear h h1
    go_wp2
    go_ret
    exact ⟨by rw [h2.out]; rfl, hbel⟩

set_option maxRecDepth 100000 in
set_option maxHeartbeats 3200000 in
theorem count_any (v : V) : ∀ (a : Option Addr) (cap : Nat) (w : World), RV w.cell? (cells6 v.kind v.text v.int v.real v.flag a v.list.length cap) v → v.count ≤ 100000 →
    Calls Tryd.prog 15 #[.agg #[.int .i64 v.kind, .string v.text, .int .i64 v.int, .float .f64 v.real, .bool v.flag, .slice a v.list.length cap]] w fun e w' => e = .returned (.int .i64 v.count) ∧ Below w.heap.size w w' := by
  induction v using V.ind with
  | h v ih =>
  intro a cap w hv hcnt
  replace ih := Lib.hid ih
  replace hv := Lib.hid hv
  have hn5 : v.list.length ≤ 100000 := by have := V.length_le v.list; have := v.count_list_lt; omega
  have hal0 := (Below.refl w.heap.size w).alloc (Nat.le_refl _) (.cells #[.int .i64 v.kind, .string v.text, .int .i64 v.int, .float .f64 v.real, .bool v.flag, .slice a v.list.length cap] 25)
  replace hal0 := Lib.hid hal0
  go_enter Tryd.func15, Tryd.ntmps15
  go_wp2_with fail
  go_loopw [3, 9] (fun s3 s9 wr => ∃ j : Nat, j ≤ v.list.length ∧ s9 = .int .i64 j ∧ s3 = .int .i64 ((V.countL (v.list.take j) + 1 : Nat) : Int) ∧ Below w.heap.size w wr) (fun _ s9 _ => v.list.length - (intOf s9).toNat)
  case atStart => exact ⟨0, Nat.zero_le _, rfl, rfl, hal0.out⟩
  case round =>
    obtain ⟨j, hj, rfl, rfl, hbel⟩ := hrel
    clear hal0
    by_cases hlt : j < v.list.length
    · obtain ⟨x, b, o, a', cap', hxj, hmem, rfl, hx, d0, d1, d2, d3, d4, d5⟩ := hv.out.elem' hlt
      have hbw := World.block_lt_of_cell? _ _ d0
      have up : ∀ (q : Nat) u, w.cell? ⟨b, q, none⟩ = some u → wr.cell? ⟨b, q, none⟩ = some u := fun q u h => by rw [hbel.cell (by exact hbw)]; exact h
      replace d0 := up _ _ d0
      replace d1 := up _ _ d1
      replace d2 := up _ _ d2
      replace d3 := up _ _ d3
      replace d4 := up _ _ d4
      replace d5 := up _ _ d5
      have hx' := hx.mono (cell_below (hbel.trans ((Below.refl wr.heap.size wr).alloc (Nat.le_refl _) (.cells #[.int .i64 x.kind, .string x.text, .int .i64 x.int, .float .f64 x.real, .bool x.flag, .slice a' x.list.length cap'] 25) |>.mono hbel.size)))
      have hxc : x.count ≤ 100000 := by have := V.count_mem hmem; have := v.count_list_lt; omega
      have hts : v.list.take (j + 1) = v.list.take j ++ [x] := by
        obtain ⟨h1, h2⟩ := List.getElem?_eq_some_iff.1 hxj
        rw [List.take_succ_eq_append_getElem h1, h2]
      have hal : Below w.heap.size w (wr.alloc (.cells #[.int .i64 x.kind, .string x.text, .int .i64 x.int, .float .f64 x.real, .bool x.flag, .slice a' x.list.length cap'] 25)) := hbel.alloc hbel.size _
      replace hx' := Lib.hid hx'
      replace hxj := Lib.hid hxj
      replace hmem := Lib.hid hmem
      replace hts := Lib.hid hts
      replace hal := Lib.hid hal
      clear up hx
      have hcj := V.countL_take v.list j
      have hcv := v.count_list_lt
      obtain ⟨m, hm⟩ : ∃ m, m = V.countL (v.list.take j) := ⟨_, rfl⟩
      rw [← hm] at hcj ⊢
      replace hm := Lib.hid hm
      go_wp2_with fail
      refine (ih.out x hmem.out a' cap' _ hx'.out hxc).mono ?_
      rintro e w4 ⟨rfl, hb4⟩
      have hbel4 : Below w.heap.size w w4 := hal.out.trans (hb4.mono hal.out.size)
      clear hb4 hbel d0 d1 d2 d3 d4 d5
      go_wp2
      go_roundw
      case rel => exact ⟨j + 1, by omega, by go_num, by rw [hts.out, V.countL_append]; simp only [V.countL, Nat.add_zero]; rw [← hm.out]; congr 1; omega, hbel4⟩
      case measure => simp [intOf]; omega
    · have hjn : j = v.list.length := by omega
      subst hjn
      rw [List.take_length]
      go_wp2
      go_ret
      exact ⟨by rw [V.count_eq]; rfl, hbel⟩

mutual
def V.dep : V → Int
  | .mk k _ _ _ _ l => if listK k = true then V.depL l + 1 else 0
def V.depL : List V → Int
  | [] => 0
  | x :: l => max (V.dep x) (V.depL l)
end
theorem V.dep_eq (v : V) : v.dep = if listK v.kind = true then V.depL v.list + 1 else 0 := by cases v; rw [V.dep]; rfl
theorem V.depL_snoc (l : List V) (x : V) : V.depL (l ++ [x]) = max (V.depL l) x.dep := by
  induction l with
  | nil =>
    simp only [List.nil_append, V.depL]
    omega
  | cons y l ih => simp only [List.cons_append, V.depL, ih]; omega
theorem V.depL_nonneg (l : List V) : 0 ≤ V.depL l := by
  induction l with
  | nil => simp [V.depL]
  | cons y l ih => simp only [V.depL]; omega
theorem V.dep_count (v : V) : 0 ≤ v.dep ∧ v.dep ≤ v.count := by
  induction v using V.ind with
  | h v ih =>
  have hl : V.depL v.list ≤ V.countL v.list := by
    have key : ∀ l : List V, (∀ x ∈ l, 0 ≤ x.dep ∧ x.dep ≤ x.count) → V.depL l ≤ V.countL l := by
      intro l
      induction l with
      | nil => intro _; simp [V.depL, V.countL]
      | cons y l ih =>
        intro h
        have h1 := h y (by simp)
        have h2 := ih (fun x hx => h x (by simp [hx]))
        simp only [V.depL, V.countL]
        omega
    exact key _ ih
  have h0 := V.depL_nonneg v.list
  rw [V.dep_eq, V.count_eq]
  split <;> omega
set_option maxRecDepth 100000 in
set_option maxHeartbeats 3200000 in
theorem depth_any (v : V) : ∀ (a : Option Addr) (cap : Nat) (w : World), RV w.cell? (cells6 v.kind v.text v.int v.real v.flag a v.list.length cap) v → v.count ≤ 100000 →
    Calls Tryd.prog 13 #[.agg #[.int .i64 v.kind, .string v.text, .int .i64 v.int, .float .f64 v.real, .bool v.flag, .slice a v.list.length cap]] w fun e w' => e = .returned (.int .i64 v.dep) ∧ Below w.heap.size w w' := by
  induction v using V.ind with
  | h v ih =>
  intro a cap w hv hcnt
  replace ih := Lib.hid ih
  replace hv := Lib.hid hv
  have hn5 : v.list.length ≤ 100000 := by have := V.length_le v.list; have := v.count_list_lt; omega
  obtain ⟨W1, hW1⟩ : ∃ W1, W1 = w.alloc (.cells #[.int .i64 v.kind, .string v.text, .int .i64 v.int, .float .f64 v.real, .bool v.flag, .slice a v.list.length cap] 25) := ⟨_, rfl⟩
  have hb0 : Below w.heap.size w W1 := by rw [hW1]; exact (Below.refl _ _).alloc (Nat.le_refl _) _
  have hs1 : W1.heap.size = w.heap.size + 1 := by rw [hW1]; simp
  have hB5 : W1.cell? ⟨w.heap.size, 5, none⟩ = some (.slice a v.list.length cap) := by rw [hW1, World.cell?_alloc_new]; rfl
  replace hs1 := Lib.hid hs1
  replace hW1 := Lib.hid hW1
  replace hb0 := Lib.hid hb0
  go_enter Tryd.func13, Tryd.ntmps13
  go_wp2_with fail
  rw [← hW1.out]
  refine (has_any v.kind W1).mono ?_
  rintro e w1 ⟨rfl, hb1⟩
  have g5 := cell_below hb1 _ _ hB5
  have hl1 : w.heap.size < w1.heap.size := World.block_lt_of_cell? _ _ g5
  have hbw1 : Below w.heap.size w w1 := hb0.out.trans (hb1.mono (by rw [hs1.out]; omega))
  have hbw2 := hbw1.alloc hbw1.size (.cells #[.bool (textK v.kind), .bool (numK v.kind), .bool (realK v.kind), .bool (flagK v.kind), .bool (listK v.kind)] 44)
  clear hb1 hB5
  cases hlk : listK v.kind with
  | false =>
    have hz : v.dep = 0 := by rw [V.dep_eq, hlk]; rfl
    replace hz := Lib.hid hz
    rw [hlk] at hbw2
    replace hlk := Lib.hid hlk
    go_wp2
    go_ret
    exact ⟨by rw [hz.out]; rfl, hbw2⟩
  | true =>
    have hz : v.dep = V.depL v.list + 1 := by rw [V.dep_eq, hlk]; rfl
    replace hz := Lib.hid hz
    rw [hlk] at hbw2
    replace hlk := Lib.hid hlk
    go_wp2_with fail
    go_loopw [5, 20] (fun s5 s20 wr => ∃ j : Nat, j ≤ v.list.length ∧ s20 = .int .i64 j ∧ s5 = .int .i64 (V.depL (v.list.take j)) ∧ Below w.heap.size w wr) (fun _ s20 _ => v.list.length - (intOf s20).toNat)
    case atStart => exact ⟨0, Nat.zero_le _, rfl, rfl, hbw2⟩
    case round =>
      obtain ⟨j, hj, rfl, rfl, hbel⟩ := hrel
      clear hbw2 hbw1 g5
      by_cases hlt : j < v.list.length
      · obtain ⟨x, b, o, a', cap', hxj, hmem, rfl, hx, d0, d1, d2, d3, d4, d5⟩ := hv.out.elem' hlt
        have hbw := World.block_lt_of_cell? _ _ d0
        have up : ∀ (q : Nat) u, w.cell? ⟨b, q, none⟩ = some u → wr.cell? ⟨b, q, none⟩ = some u := fun q u h => by rw [hbel.cell (by exact hbw)]; exact h
        replace d0 := up _ _ d0
        replace d1 := up _ _ d1
        replace d2 := up _ _ d2
        replace d3 := up _ _ d3
        replace d4 := up _ _ d4
        replace d5 := up _ _ d5
        have hx' := hx.mono (cell_below (hbel.trans ((Below.refl wr.heap.size wr).alloc (Nat.le_refl _) (.cells #[.int .i64 x.kind, .string x.text, .int .i64 x.int, .float .f64 x.real, .bool x.flag, .slice a' x.list.length cap'] 25) |>.mono hbel.size)))
        have hxc : x.count ≤ 100000 := by have := V.count_mem hmem; have := v.count_list_lt; omega
        have hts : v.list.take (j + 1) = v.list.take j ++ [x] := by
          obtain ⟨h1, h2⟩ := List.getElem?_eq_some_iff.1 hxj
          rw [List.take_succ_eq_append_getElem h1, h2]
        have hal : Below w.heap.size w (wr.alloc (.cells #[.int .i64 x.kind, .string x.text, .int .i64 x.int, .float .f64 x.real, .bool x.flag, .slice a' x.list.length cap'] 25)) := hbel.alloc hbel.size _
        replace hx' := Lib.hid hx'
        replace hxj := Lib.hid hxj
        replace hmem := Lib.hid hmem
        replace hts := Lib.hid hts
        replace hal := Lib.hid hal
        clear up hx
        obtain ⟨m, hm⟩ : ∃ m, m = V.depL (v.list.take j) := ⟨_, rfl⟩
        rw [← hm]
        replace hm := Lib.hid hm
        go_wp2_with fail
        refine (ih.out x hmem.out a' cap' _ hx'.out hxc).mono ?_
        rintro e w4 ⟨rfl, hb4⟩
        have hbel4 : Below w.heap.size w w4 := hal.out.trans (hb4.mono hal.out.size)
        clear hb4 hbel d0 d1 d2 d3 d4 d5
        by_cases hmx : m < x.dep
        all_goals
          go_wp2
          go_roundw
          case rel => exact ⟨j + 1, by omega, by go_num, by rw [hts.out, V.depL_snoc, ← hm.out] <;> exact congrArg (Value.int .i64) (by omega), hbel4⟩
          case measure => simp [intOf]; omega
      · have hjn : j = v.list.length := by omega
        subst hjn
        rw [List.take_length]
        have hdl := V.depL_nonneg v.list
        have hdc : V.depL v.list ≤ 100000 := by have := v.dep_count.2; rw [hz.out] at this; omega
        go_wp2
        go_ret
        exact ⟨by rw [hz.out]; rfl, hbel⟩
end Go.Proofs.YtapiinfnedhmoaaDoor
