/- Whether a value can be; how deep it is; how many there are in it. -/
import Derived.Test.YtagkgfniihiinaaGreatDoorRight
import Derived.Test.YtagkgfniihiinaaGreatDoorForm

namespace Go.Proofs.YtagkgfniihiinaaGreatDoor
open Go.RowKit

def checkZ (v : V) : Int := if v.fine 8 = true ∧ v.count ≤ 1000 then 0 else 31
theorem check_any (v : V) (a : Option Addr) (cap : Nat) (w : World) (hv : RV w.cell? (cells6 v.kind v.text v.int v.real v.flag a v.list.length cap) v) (hs : v.sized) (hc : v.count ≤ 100000) :
    Calls Tryz.prog 69 #[.agg #[.int .i64 v.kind, .string v.text, .int .i64 v.int, .float .f64 v.real, .bool v.flag, .slice a v.list.length cap]] w fun e w' => e = .returned (.int .i64 (checkZ v)) ∧ Below w.heap.size w w' := by
  have hal := (Below.refl w.heap.size w).alloc (Nat.le_refl _) (.cells #[.int .i64 v.kind, .string v.text, .int .i64 v.int, .float .f64 v.real, .bool v.flag, .slice a v.list.length cap] 26)
  have hv' := hv.mono (cell_below hal)
  replace hv' := Lib.hid hv'
  replace hal := Lib.hid hal
  clear hv
  go_enter Tryz.func69, Tryz.ntmps69
  go_wp2_with fail
  refine (right_any v a cap 8 1000 _ hv'.out hs hc (by omega) (by omega) (by omega) (by omega)).mono ?_
  rintro e w1 ⟨rfl, hb⟩
  have hbel := hal.out.trans (hb.mono (by simp))
  clear hb
  by_cases h : v.fine 8 = true ∧ v.count ≤ 1000
  · have h1 : rightZ v 8 1000 = 1000 - v.count := by unfold rightZ; rw [if_pos ⟨h.1, by omega⟩]
    have h2 : checkZ v = 0 := by unfold checkZ; rw [if_pos h]
    have h3 := h.2
    rw [h1]
    replace h2 := Lib.hid h2
    clear h h1
    have h4 : ¬ ((1000 : Int) - v.count < 0) := by omega
    go_wp2
    go_ret
    exact ⟨by rw [h2.out]; rfl, hbel⟩
  · have h1 : rightZ v 8 1000 = -1 := by unfold rightZ; rw [if_neg (fun h' => h ⟨h'.1, by omega⟩)]
    have h2 : checkZ v = 31 := by unfold checkZ; rw [if_neg h]
    rw [h1]
    replace h2 := Lib.hid h2
    clear h h1
    go_wp2
    go_ret
    exact ⟨by rw [h2.out]; rfl, hbel⟩

mutual
def V.dep : V → Int
  | .mk k _ _ _ _ l => if listK k = true then V.depL l + 1 else 0
def V.depL : List V → Int
  | [] => 0
  | x :: l => max (V.dep x) (V.depL l)
end
theorem V.dep_eq (v : V) : v.dep = if listK v.kind = true then V.depL v.list + 1 else 0 := by cases v; rw [V.dep]; rfl
theorem V.depL_snoc (l : List V) (x : V) : V.depL (l ++ [x]) = max (V.depL l) x.dep := by
  induction l with
  | nil =>
    simp only [List.nil_append, V.depL]
    omega
  | cons y l ih => simp only [List.cons_append, V.depL, ih]; omega
theorem V.depL_nonneg (l : List V) : 0 ≤ V.depL l := by
  induction l with
  | nil => simp [V.depL]
  | cons y l ih => simp only [V.depL]; omega
theorem V.dep_count (v : V) : 0 ≤ v.dep ∧ v.dep ≤ v.count := by
  induction v using V.ind with
  | h v ih =>
  have hl : V.depL v.list ≤ V.countL v.list := by
    have key : ∀ l : List V, (∀ x ∈ l, 0 ≤ x.dep ∧ x.dep ≤ x.count) → V.depL l ≤ V.countL l := by
      intro l
      induction l with
      | nil => intro _; simp [V.depL, V.countL]
      | cons y l ih =>
        intro h
        have h1 := h y (by simp)
        have h2 := ih (fun x hx => h x (by simp [hx]))
        simp only [V.depL, V.countL]
        omega
    exact key _ ih
  have h0 := V.depL_nonneg v.list
  rw [V.dep_eq, V.count_eq]
  split <;> omega
end Go.Proofs.YtagkgfniihiinaaGreatDoor

/- What a number of any length is, byte by byte. -/
namespace Go.Proofs.YtagkgfniihiinaaGreatDoor
open Go.RowKit Go.Lib

def digB (x : UInt8) : Bool := decide (48 ≤ x.toNat ∧ x.toNat ≤ 57)
theorem dig_contains (x : UInt8) : digits10.contains x = digB x := by
  have : ∀ n : Nat, n < 256 → digits10.contains (UInt8.ofNat n) = digB (UInt8.ofNat n) := by decide +kernel
  have h := this x.toNat x.toNat_lt
  simpa using h
theorem dw_all {α : Type} (p : α → Bool) (l : List α) : (∀ x ∈ l.dropWhile p, p x = true) ↔ ∀ x ∈ l, p x = true := by
  induction l with
  | nil => simp
  | cons y l ih =>
    by_cases h : p y = true
    · rw [List.dropWhile_cons_of_pos h, ih]
      simp [h]
    · rw [List.dropWhile_cons_of_neg h]
theorem dw_nil {α : Type} (p : α → Bool) (l : List α) : l.dropWhile p = [] ↔ ∀ x ∈ l, p x = true := by
  induction l with
  | nil => simp
  | cons y l ih =>
    by_cases h : p y = true
    · rw [List.dropWhile_cons_of_pos h, ih]
      simp [h]
    · rw [List.dropWhile_cons_of_neg h]
      simp [h]
theorem trimS_nil (l : List UInt8) : (Lib.trimS l digits10).isEmpty = l.all digB := by
  rw [Bool.eq_iff_iff, List.isEmpty_iff, List.all_eq_true]
  unfold Lib.trimS Lib.trimLeftS Lib.trimRightS
  rw [dw_nil]
  constructor
  · intro h x hx
    have h2 : ∀ y ∈ l.reverse.dropWhile (digits10.contains ·), digits10.contains y = true := fun y hy => h y (by simpa using hy)
    have h3 := (dw_all _ _).1 h2 x (by simpa using hx)
    rw [← dig_contains]; exact h3
  · intro h x hx
    have h1 : x ∈ l := by
      have := (List.dropWhile_sublist (fun y => digits10.contains y) (l := l.reverse)).subset (by simpa using hx)
      simpa using this
    show digits10.contains x = true
    rw [dig_contains]; exact h x h1
/-- Where a number's digits begin. -/
def bigAt (t : ByteArray) : Nat := if t.data.toList.head? = some 45 then 1 else 0
theorem bigB_eq (t : ByteArray) : bigB t = (decide (bigAt t ≠ t.size) && (t.data.toList.drop (bigAt t)).all digB) := by
  have hp : Lib.trimPrefix t.data.toList [45] = t.data.toList.drop (bigAt t) := by
    unfold Lib.trimPrefix bigAt
    cases h : t.data.toList with
    | nil => simp [Lib.hasPrefix]
    | cons y l =>
      by_cases hy : y = 45
      · subst hy; simp [Lib.hasPrefix]
      · simp [Lib.hasPrefix, hy]
        intro h'; exact absurd h'.symm hy
  unfold bigB
  rw [hp, trimS_nil]
  congr 1
  rw [Bool.eq_iff_iff]
  have hl : t.data.toList.length = t.size := by simp
  have hle : bigAt t ≤ t.size := by
    unfold bigAt
    split
    · rename_i h
      cases hh : t.data.toList with
      | nil => rw [hh] at h; cases h
      | cons y l => rw [hh] at hl; simp at hl; omega
    · omega
  simp [List.drop_eq_nil_iff]
  omega
end Go.Proofs.YtagkgfniihiinaaGreatDoor

/- What the document's functions say of a value. -/
namespace Go.Proofs.YtagkgfniihiinaaGreatDoor
open Go.RowKit

theorem rlists_any (k : Int) (w : World) : Calls Tryz.prog 54 #[.int .i64 k] w fun e w' => e = .returned (.bool (listK k)) ∧ w' = w := by
  by_cases h5 : k = 5
  · subst h5
    go_enter Tryz.func54, Tryz.ntmps54
    go_wp2
    go_ret
    exact ⟨rfl, rfl⟩
  · have h5b : (k == 5) = false := by simpa using h5
    replace h5 := Lib.hid h5
    by_cases h12 : 12 ≤ k
    · by_cases h14 : k ≤ 14
      · rw [show listK k = true by simp [listK]; omega]
        go_enter Tryz.func54, Tryz.ntmps54
        go_wp2
        go_ret
        exact ⟨rfl, rfl⟩
      · rw [show listK k = false by have := h5.out; simp [listK]; omega]
        go_enter Tryz.func54, Tryz.ntmps54
        go_wp2
        go_ret
        exact ⟨rfl, rfl⟩
    · rw [show listK k = false by have := h5.out; simp [listK]; omega]
      go_enter Tryz.func54, Tryz.ntmps54
      go_wp2
      go_ret
      exact ⟨rfl, rfl⟩
theorem rtexts_any (k : Int) (w : World) : Calls Tryz.prog 83 #[.int .i64 k] w fun e w' => e = .returned (.bool (textK k)) ∧ w' = w := by
  rcases (by omega : k = 1 ∨ k = 2 ∨ k = 4 ∨ (k ≠ 1 ∧ k ≠ 2 ∧ k ≠ 4)) with rfl | rfl | rfl | ⟨h1, h2, h4⟩
  · go_enter Tryz.func83, Tryz.ntmps83
    go_wp2
    go_ret
    exact ⟨rfl, rfl⟩
  · go_enter Tryz.func83, Tryz.ntmps83
    go_wp2
    go_ret
    exact ⟨rfl, rfl⟩
  · go_enter Tryz.func83, Tryz.ntmps83
    go_wp2
    go_ret
    exact ⟨rfl, rfl⟩
  · have h1b : (k == 1) = false := by simpa using h1
    have h2b : (k == 2) = false := by simpa using h2
    have h4b : (k == 4) = false := by simpa using h4
    replace h1 := Lib.hid h1
    replace h2 := Lib.hid h2
    replace h4 := Lib.hid h4
    by_cases h9 : 9 ≤ k
    · by_cases h11 : k ≤ 11
      · rw [show textK k = true by simp [textK]; omega]
        go_enter Tryz.func83, Tryz.ntmps83
        go_wp2
        go_ret
        exact ⟨rfl, rfl⟩
      · rw [show textK k = false by have := h1.out; have := h2.out; have := h4.out; simp [textK]; omega]
        go_enter Tryz.func83, Tryz.ntmps83
        go_wp2
        go_ret
        exact ⟨rfl, rfl⟩
    · rw [show textK k = false by have := h1.out; have := h2.out; have := h4.out; simp [textK]; omega]
      go_enter Tryz.func83, Tryz.ntmps83
      go_wp2
      go_ret
      exact ⟨rfl, rfl⟩

set_option maxRecDepth 100000 in
set_option maxHeartbeats 3200000 in
theorem rcount_any (v : V) : ∀ (a : Option Addr) (cap : Nat) (w : World), RV w.cell? (cells6 v.kind v.text v.int v.real v.flag a v.list.length cap) v → v.count ≤ 100000 →
    Calls Tryz.prog 38 #[.agg #[.int .i64 v.kind, .string v.text, .int .i64 v.int, .float .f64 v.real, .bool v.flag, .slice a v.list.length cap]] w fun e w' => e = .returned (.int .i64 v.count) ∧ Below w.heap.size w w' := by
  induction v using V.ind with
  | h v ih =>
  intro a cap w hv hcnt
  replace ih := Lib.hid ih
  replace hv := Lib.hid hv
  have hn5 : v.list.length ≤ 100000 := by have := V.length_le v.list; have := v.count_list_lt; omega
  have hal0 := (Below.refl w.heap.size w).alloc (Nat.le_refl _) (.cells #[.int .i64 v.kind, .string v.text, .int .i64 v.int, .float .f64 v.real, .bool v.flag, .slice a v.list.length cap] 26)
  replace hal0 := Lib.hid hal0
  go_enter Tryz.func38, Tryz.ntmps38
  go_wp2_with fail
  go_loopw [3, 9] (fun s3 s9 wr => ∃ j : Nat, j ≤ v.list.length ∧ s9 = .int .i64 j ∧ s3 = .int .i64 ((V.countL (v.list.take j) + 1 : Nat) : Int) ∧ Below w.heap.size w wr) (fun _ s9 _ => v.list.length - (intOf s9).toNat)
  case atStart => exact ⟨0, Nat.zero_le _, rfl, rfl, hal0.out⟩
  case round =>
    obtain ⟨j, hj, rfl, rfl, hbel⟩ := hrel
    clear hal0
    by_cases hlt : j < v.list.length
    · obtain ⟨x, b, o, a', cap', hxj, hmem, rfl, hx, d0, d1, d2, d3, d4, d5⟩ := hv.out.elem' hlt
      have hbw := World.block_lt_of_cell? _ _ d0
      have up : ∀ (q : Nat) u, w.cell? ⟨b, q, none⟩ = some u → wr.cell? ⟨b, q, none⟩ = some u := fun q u h => by rw [hbel.cell (by exact hbw)]; exact h
      replace d0 := up _ _ d0
      replace d1 := up _ _ d1
      replace d2 := up _ _ d2
      replace d3 := up _ _ d3
      replace d4 := up _ _ d4
      replace d5 := up _ _ d5
      have hx' := hx.mono (cell_below (hbel.trans ((Below.refl wr.heap.size wr).alloc (Nat.le_refl _) (.cells #[.int .i64 x.kind, .string x.text, .int .i64 x.int, .float .f64 x.real, .bool x.flag, .slice a' x.list.length cap'] 26) |>.mono hbel.size)))
      have hxc : x.count ≤ 100000 := by have := V.count_mem hmem; have := v.count_list_lt; omega
      have hts : v.list.take (j + 1) = v.list.take j ++ [x] := by
        obtain ⟨h1, h2⟩ := List.getElem?_eq_some_iff.1 hxj
        rw [List.take_succ_eq_append_getElem h1, h2]
      have hal : Below w.heap.size w (wr.alloc (.cells #[.int .i64 x.kind, .string x.text, .int .i64 x.int, .float .f64 x.real, .bool x.flag, .slice a' x.list.length cap'] 26)) := hbel.alloc hbel.size _
      replace hx' := Lib.hid hx'
      replace hxj := Lib.hid hxj
      replace hmem := Lib.hid hmem
      replace hts := Lib.hid hts
      replace hal := Lib.hid hal
      clear up hx
      have hcj := V.countL_take v.list j
      have hcv := v.count_list_lt
      obtain ⟨m, hm⟩ : ∃ m, m = V.countL (v.list.take j) := ⟨_, rfl⟩
      rw [← hm] at hcj ⊢
      replace hm := Lib.hid hm
      go_wp2_with fail
      refine (ih.out x hmem.out a' cap' _ hx'.out hxc).mono ?_
      rintro e w4 ⟨rfl, hb4⟩
      have hbel4 : Below w.heap.size w w4 := hal.out.trans (hb4.mono hal.out.size)
      clear hb4 hbel d0 d1 d2 d3 d4 d5
      go_wp2
      go_roundw
      case rel => exact ⟨j + 1, by omega, by go_num, by rw [hts.out, V.countL_append]; simp only [V.countL, Nat.add_zero]; rw [← hm.out]; congr 1; omega, hbel4⟩
      case measure => simp [intOf]; omega
    · have hjn : j = v.list.length := by omega
      subst hjn
      rw [List.take_length]
      go_wp2
      go_ret
      exact ⟨by rw [V.count_eq]; rfl, hbel⟩


set_option maxRecDepth 100000 in
set_option maxHeartbeats 3200000 in
theorem rdepth_any (v : V) : ∀ (a : Option Addr) (cap : Nat) (w : World), RV w.cell? (cells6 v.kind v.text v.int v.real v.flag a v.list.length cap) v → v.count ≤ 100000 →
    Calls Tryz.prog 37 #[.agg #[.int .i64 v.kind, .string v.text, .int .i64 v.int, .float .f64 v.real, .bool v.flag, .slice a v.list.length cap]] w fun e w' => e = .returned (.int .i64 v.dep) ∧ Below w.heap.size w w' := by
  induction v using V.ind with
  | h v ih =>
  intro a cap w hv hcnt
  replace ih := Lib.hid ih
  replace hv := Lib.hid hv
  have hn5 : v.list.length ≤ 100000 := by have := V.length_le v.list; have := v.count_list_lt; omega
  have hal0 := (Below.refl w.heap.size w).alloc (Nat.le_refl _) (.cells #[.int .i64 v.kind, .string v.text, .int .i64 v.int, .float .f64 v.real, .bool v.flag, .slice a v.list.length cap] 26)
  replace hal0 := Lib.hid hal0
  cases hlk : listK v.kind with
  | false =>
    have hz : v.dep = 0 := by rw [V.dep_eq, hlk]; rfl
    replace hz := Lib.hid hz
    replace hlk := Lib.hid hlk
    go_enter Tryz.func37, Tryz.ntmps37
    go_wp2_with fail
    refine (rlists_any v.kind _).mono ?_
    rintro e w1 ⟨rfl, hw1⟩
    rw [hw1, hlk.out]
    go_wp2
    go_ret
    exact ⟨by rw [hz.out]; rfl, hal0.out⟩
  | true =>
    have hz : v.dep = V.depL v.list + 1 := by rw [V.dep_eq, hlk]; rfl
    replace hz := Lib.hid hz
    replace hlk := Lib.hid hlk
    go_enter Tryz.func37, Tryz.ntmps37
    go_wp2_with fail
    refine (rlists_any v.kind _).mono ?_
    rintro e w1 ⟨rfl, hw1⟩
    rw [hw1, hlk.out]
    go_wp2_with fail
    go_loopw [3, 6, 14] (fun s3 _ s20 wr => ∃ j : Nat, j ≤ v.list.length ∧ s20 = .int .i64 j ∧ s3 = .int .i64 (V.depL (v.list.take j) + 1) ∧ Below w.heap.size w wr) (fun _ _ s20 _ => v.list.length - (intOf s20).toNat)
    case atStart => exact ⟨0, Nat.zero_le _, rfl, rfl, hal0.out⟩
    case round =>
      obtain ⟨j, hj, rfl, rfl, hbel⟩ := hrel
      clear hal0 hw1
      by_cases hlt : j < v.list.length
      · obtain ⟨x, b, o, a', cap', hxj, hmem, rfl, hx, d0, d1, d2, d3, d4, d5⟩ := hv.out.elem' hlt
        have hbw := World.block_lt_of_cell? _ _ d0
        have up : ∀ (q : Nat) u, w.cell? ⟨b, q, none⟩ = some u → wr.cell? ⟨b, q, none⟩ = some u := fun q u h => by rw [hbel.cell (by exact hbw)]; exact h
        replace d0 := up _ _ d0
        replace d1 := up _ _ d1
        replace d2 := up _ _ d2
        replace d3 := up _ _ d3
        replace d4 := up _ _ d4
        replace d5 := up _ _ d5
        have hx' := hx.mono (cell_below (hbel.trans ((Below.refl wr.heap.size wr).alloc (Nat.le_refl _) (.cells #[.int .i64 x.kind, .string x.text, .int .i64 x.int, .float .f64 x.real, .bool x.flag, .slice a' x.list.length cap'] 26) |>.mono hbel.size)))
        have hxc : x.count ≤ 100000 := by have := V.count_mem hmem; have := v.count_list_lt; omega
        have hts : v.list.take (j + 1) = v.list.take j ++ [x] := by
          obtain ⟨h1, h2⟩ := List.getElem?_eq_some_iff.1 hxj
          rw [List.take_succ_eq_append_getElem h1, h2]
        have hal : Below w.heap.size w (wr.alloc (.cells #[.int .i64 x.kind, .string x.text, .int .i64 x.int, .float .f64 x.real, .bool x.flag, .slice a' x.list.length cap'] 26)) := hbel.alloc hbel.size _
        replace hx' := Lib.hid hx'
        replace hxj := Lib.hid hxj
        replace hmem := Lib.hid hmem
        replace hts := Lib.hid hts
        replace hal := Lib.hid hal
        clear up hx
        have hxd := x.dep_count
        obtain ⟨m, hm⟩ : ∃ m, m = V.depL (v.list.take j) := ⟨_, rfl⟩
        rw [← hm]
        replace hm := Lib.hid hm
        go_wp2_with fail
        refine (ih.out x hmem.out a' cap' _ hx'.out hxc).mono ?_
        rintro e w4 ⟨rfl, hb4⟩
        have hbel4 : Below w.heap.size w w4 := hal.out.trans (hb4.mono hal.out.size)
        clear hb4 hbel d0 d1 d2 d3 d4 d5
        by_cases hmx : m < x.dep
        all_goals
          go_wp2
          go_roundw
          case rel => exact ⟨j + 1, by omega, by go_num, by rw [hts.out, V.depL_snoc, ← hm.out] <;> exact congrArg (Value.int .i64) (by omega), hbel4⟩
          case measure => simp [intOf]; omega
      · have hjn : j = v.list.length := by omega
        subst hjn
        rw [List.take_length]
        go_wp2
        go_ret
        exact ⟨by rw [hz.out]; rfl, hbel⟩
end Go.Proofs.YtagkgfniihiinaaGreatDoor
