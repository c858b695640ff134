/- Whether a value can be; how deep it is; how many there are in it. -/
import Derived.Test.YtagkgfniihiinaaGreatDoorRight
namespace Go.Proofs.YtagkgfniihiinaaGreatDoor
open Go.RowKit

def checkZ (v : V) : Int := if v.fine 8 = true ∧ v.count ≤ 1000 then 0 else 31
theorem check_any (v : V) (a : Option Addr) (cap : Nat) (w : World) (hv : RV w.cell? (cells6 v.kind v.text v.int v.real v.flag a v.list.length cap) v) (hs : v.sized) (hc : v.count ≤ 100000) :
    Calls Tryz.prog 69 #[.agg #[.int .i64 v.kind, .string v.text, .int .i64 v.int, .float .f64 v.real, .bool v.flag, .slice a v.list.length cap]] w fun e w' => e = .returned (.int .i64 (checkZ v)) ∧ Below w.heap.size w w' := by
  have hal := (Below.refl w.heap.size w).alloc (Nat.le_refl _) (.cells #[.int .i64 v.kind, .string v.text, .int .i64 v.int, .float .f64 v.real, .bool v.flag, .slice a v.list.length cap] 26)
  have hv' := hv.mono (cell_below hal)
  replace hv' := Lib.hid hv'
  replace hal := Lib.hid hal
  clear hv
  go_enter Tryz.func69, Tryz.ntmps69
  go_wp2_with fail
  refine (right_any v a cap 8 1000 _ hv'.out hs hc (by omega) (by omega) (by omega) (by omega)).mono ?_
  rintro e w1 ⟨rfl, hb⟩
  have hbel := hal.out.trans (hb.mono (by simp))
  clear hb
  by_cases h : v.fine 8 = true ∧ v.count ≤ 1000
  · have h1 : rightZ v 8 1000 = 1000 - v.count := by unfold rightZ; rw [if_pos ⟨h.1, by omega⟩]
    have h2 : checkZ v = 0 := by unfold checkZ; rw [if_pos h]
    have h3 := h.2
    rw [h1]
    replace h2 := Lib.hid h2
    clear h h1
    have h4 : ¬ ((1000 : Int) - v.count < 0) := by omega
    go_wp2
    go_ret
    exact ⟨by rw [h2.out]; rfl, hbel⟩
  · have h1 : rightZ v 8 1000 = -1 := by unfold rightZ; rw [if_neg (fun h' => h ⟨h'.1, by omega⟩)]
    have h2 : checkZ v = 31 := by unfold checkZ; rw [if_neg h]
    rw [h1]
    replace h2 := Lib.hid h2
    clear h h1
    go_wp2
    go_ret
    exact ⟨by rw [h2.out]; rfl, hbel⟩

mutual
def V.dep : V → Int
  | .mk k _ _ _ _ l => if listK k = true then V.depL l + 1 else 0
def V.depL : List V → Int
  | [] => 0
  | x :: l => max (V.dep x) (V.depL l)
end
theorem V.dep_eq (v : V) : v.dep = if listK v.kind = true then V.depL v.list + 1 else 0 := by cases v; rw [V.dep]; rfl
theorem V.depL_snoc (l : List V) (x : V) : V.depL (l ++ [x]) = max (V.depL l) x.dep := by
  induction l with
  | nil =>
    simp only [List.nil_append, V.depL]
    omega
  | cons y l ih => simp only [List.cons_append, V.depL, ih]; omega
theorem V.depL_nonneg (l : List V) : 0 ≤ V.depL l := by
  induction l with
  | nil => simp [V.depL]
  | cons y l ih => simp only [V.depL]; omega
theorem V.dep_count (v : V) : 0 ≤ v.dep ∧ v.dep ≤ v.count := by
  induction v using V.ind with
  | h v ih =>
  have hl : V.depL v.list ≤ V.countL v.list := by
    have key : ∀ l : List V, (∀ x ∈ l, 0 ≤ x.dep ∧ x.dep ≤ x.count) → V.depL l ≤ V.countL l := by
      intro l
      induction l with
      | nil => intro _; simp [V.depL, V.countL]
      | cons y l ih =>
        intro h
        have h1 := h y (by simp)
        have h2 := ih (fun x hx => h x (by simp [hx]))
        simp only [V.depL, V.countL]
        omega
    exact key _ ih
  have h0 := V.depL_nonneg v.list
  rw [V.dep_eq, V.count_eq]
  split <;> omega
end Go.Proofs.YtagkgfniihiinaaGreatDoor
