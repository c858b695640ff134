/- value.Same: whether two values are the same everywhere, their numbers by their bits. -/
import Derived.Test.YtapiinfnedhmoaaDoorHas
import Derived.Test.YtapiinfnedhmoaaDoorSame03
namespace Go.Proofs.YtapiinfnedhmoaaDoor
open Go.RowKit

/-- Whether so it is. -/
def SameP (w : World) (p : Prop) (e : Ending) (w' : World) : Prop := ∃ q : Bool, e = .returned (.bool q) ∧ (q = true ↔ p) ∧ Below w.heap.size w w'
theorem rsame_any (r s : Nat) (w : World) : Calls Tryd.prog 31 #[.float .f64 r, .float .f64 s] w fun e w' => e = .returned (.bool (decide (bitsN r = bitsN s))) ∧ w' = w := by
  have e : ((bitsN r : Int) == (bitsN s : Int)) = decide (bitsN r = bitsN s) := by
    rw [Bool.eq_iff_iff]; simp; omega
  replace e := Lib.hid e
  go_enter Tryd.func31, Tryd.ntmps31
  go_wp2_with (go_at_call 37; refine (realBits_any _ _).mono ?_; rintro e w' ⟨rfl, rfl⟩)
  go_ret
  exact ⟨congrArg (fun b => Ending.returned (.bool b)) (by first | exact e.out | (rw [← e.out]; simp) | (simp; omega)), rfl⟩

set_option maxRecDepth 100000 in
set_option maxHeartbeats 6400000 in
theorem eqf_any (u v : V) (ih : ∀ x ∈ u.list, ∀ (y : V) (a : Option Addr) (n cap : Nat) (a' : Option Addr) (n' cap' : Nat) (w : World), RV w.cell? (cells6 x.kind x.text x.int x.real x.flag a n cap) x → RV w.cell? (cells6 y.kind y.text y.int y.real y.flag a' n' cap') y → x.count ≤ 100000000 →
    Calls Tryd.prog 23 #[.agg #[.int .i64 x.kind, .string x.text, .int .i64 x.int, .float .f64 x.real, .bool x.flag, .slice a n cap], .agg #[.int .i64 y.kind, .string y.text, .int .i64 y.int, .float .f64 y.real, .bool y.flag, .slice a' n' cap']] w fun e w' =>
      SameP w (x.norm = y.norm) e w') (a : Option Addr) (n cap : Nat) (a' : Option Addr) (n' cap' : Nat) (w : World) (hu : RV w.cell? (cells6 u.kind u.text u.int u.real u.flag a n cap) u) (hv : RV w.cell? (cells6 v.kind v.text v.int v.real v.flag a' n' cap') v) (hcnt : u.count ≤ 100000000) :
    Calls Tryd.prog 32 #[.slice a n cap, .slice a' n' cap', .func (.func 23) #[] #[]] w fun e w' =>
      SameP w (u.list.map V.norm = v.list.map V.norm) e w' := by
  replace ih := Lib.hid ih
  obtain ⟨_, _, _, _, _, hnu⟩ := hu.len
  obtain ⟨_, _, _, _, _, hnv⟩ := hv.len
  have hnb : n < 100000000 := by
    have := V.length_le u.list
    have : V.countL u.list < u.count := by cases u; simp only [V.count, V.list]; omega
    omega
  by_cases c6 : n = n'
  case neg =>
    have hd : ¬ u.list.map V.norm = v.list.map V.norm := fun h => c6 (by have := congrArg List.length h; simpa [hnu, hnv] using this)
    have b6 : ((n : Int) != (n' : Int)) = true := by simp; omega
    clear hu hv hnu hnv hnb hcnt c6 ih
    replace hd := Lib.hid hd
    go_enter Tryd.func32, Tryd.ntmps32
    go_wp2
    go_ret
    exact ⟨false, rfl, by simp [hd.out], Below.refl _ _⟩
  subst c6
  have b6 : ((n : Int) != (n : Int)) = false := by simp
  replace hnu := Lib.hid hnu
  replace hnv := Lib.hid hnv
  go_enter Tryd.func32, Tryd.ntmps32
  go_wp2_with fail
  go_loopw [17] (fun i wr => ∃ k : Nat, k ≤ n ∧ i = .int .i64 k ∧ (u.list.take k).map V.norm = (v.list.take k).map V.norm ∧ Below w.heap.size w wr) (fun i _ => n - (intOf i).toNat)
  case atStart => exact ⟨0, Nat.zero_le _, rfl, rfl, Below.refl _ _⟩
  case round =>
    obtain ⟨k, hk, rfl, htk, hbel⟩ := hrel
    replace htk := Lib.hid htk
    by_cases hlt : k < n
    · obtain ⟨x, b1, o1, a1, p1, hxj, hxm, rfl, hx, d0, d1, d2, d3, d4, d5⟩ := hu.elem' hlt
      obtain ⟨y, b2, o2, a2, p2, hyj, hym, rfl, hy, k0, k1, k2, k3, k4, k5⟩ := hv.elem' hlt
      have q1 := World.block_lt_of_cell? _ _ d0
      have q2 := World.block_lt_of_cell? _ _ k0
      have up : ∀ (b q : Nat) u, b < w.heap.size → w.cell? ⟨b, q, none⟩ = some u → wr.cell? ⟨b, q, none⟩ = some u := fun b q u hb h => by rw [hbel.cell (by exact hb)]; exact h
      replace d0 := up _ _ _ q1 d0
      replace d1 := up _ _ _ q1 d1
      replace d2 := up _ _ _ q1 d2
      replace d3 := up _ _ _ q1 d3
      replace d4 := up _ _ _ q1 d4
      replace d5 := up _ _ _ q1 d5
      replace k0 := up _ _ _ q2 k0
      replace k1 := up _ _ _ q2 k1
      replace k2 := up _ _ _ q2 k2
      replace k3 := up _ _ _ q2 k3
      replace k4 := up _ _ _ q2 k4
      replace k5 := up _ _ _ q2 k5
      have z1 : b1 < wr.heap.size := Nat.lt_of_lt_of_le q1 hbel.size
      have z2 : b2 < wr.heap.size := Nat.lt_of_lt_of_le q2 hbel.size
      have hbA : Below wr.heap.size wr ((wr.alloc (.cells #[.int .i64 x.kind, .string x.text, .int .i64 x.int, .float .f64 x.real, .bool x.flag, .slice a1 x.list.length p1] 25)).alloc (.cells #[.int .i64 y.kind, .string y.text, .int .i64 y.int, .float .f64 y.real, .bool y.flag, .slice a2 y.list.length p2] 25)) := ((Below.refl _ _).alloc (Nat.le_refl _) _).alloc (by simp) _
      have hx' := (hx.mono (cell_below hbel)).mono (cell_below hbA)
      have hy' := (hy.mono (cell_below hbel)).mono (cell_below hbA)
      have hxc : x.count ≤ 100000000 := by have := V.count_mem hxm; have := u.count_list_lt; omega
      have hst := map_take_snoc hxj hyj htk.out
      have i0 : (0 : Int) ≤ (k : Int) := by omega
      have i1 : (k : Int) < (n : Int) := by omega
      replace hx' := Lib.hid hx'
      replace hy' := Lib.hid hy'
      replace hxm := Lib.hid hxm
      replace hxc := Lib.hid hxc
      replace hst := Lib.hid hst
      replace hbA := Lib.hid hbA
      clear up hx hy hu hv hxj hyj hym q1 q2
      go_wp2_with fail
      refine (ih.out x hxm.out y a1 x.list.length p1 a2 y.list.length p2 _ hx'.out hy'.out hxc.out).mono ?_
      rintro e w3 ⟨q, rfl, hq, hb3⟩
      have hb4 : Below wr.heap.size wr w3 := hbA.out.trans (hb3.mono hbA.out.size)
      clear hb3 d0 d1 d2 d3 d4 d5 k0 k1 k2 k3 k4 k5
      cases q with
      | false =>
        replace hq := Lib.hid hq
        go_wp2
        go_ret
        refine ⟨false, rfl, ⟨fun h => (by cases h), fun h => ?_⟩, hbel.trans (hb4.mono hbel.size)⟩
        have h1 := map_take_of h (k + 1)
        exact hq.out.2 (hst.out.1 h1)
      | true =>
        replace hq := Lib.hid hq
        go_wp2
        go_roundw
        case rel => exact ⟨k + 1, by omega, by go_num, hst.out.2 (hq.out.1 (by trivial)), hbel.trans (hb4.mono hbel.size)⟩
        case measure => simp [intOf]; omega
    · have hkn : k = n := by omega
      subst hkn
      have h1 := htk.out
      rw [List.take_of_length_le (by rw [← hnu.out]; exact Nat.le_refl _), List.take_of_length_le (by rw [← hnv.out]; exact Nat.le_refl _)] at h1
      replace h1 := Lib.hid h1
      clear hu hv
      go_wp2
      go_ret
      exact ⟨true, rfl, ⟨fun _ => h1.out, fun _ => rfl⟩, hbel⟩

set_option maxRecDepth 100000 in
set_option maxHeartbeats 6400000 in
theorem vsame_any (u : V) : ∀ (y : V) (a : Option Addr) (n cap : Nat) (a' : Option Addr) (n' cap' : Nat) (w : World), RV w.cell? (cells6 u.kind u.text u.int u.real u.flag a n cap) u → RV w.cell? (cells6 y.kind y.text y.int y.real y.flag a' n' cap') y → u.count ≤ 100000000 →
    Calls Tryd.prog 23 #[.agg #[.int .i64 u.kind, .string u.text, .int .i64 u.int, .float .f64 u.real, .bool u.flag, .slice a n cap], .agg #[.int .i64 y.kind, .string y.text, .int .i64 y.int, .float .f64 y.real, .bool y.flag, .slice a' n' cap']] w fun e w' =>
      SameP w (u.norm = y.norm) e w' := by
  induction u using V.ind with
  | h u ih =>
  intro v a n cap a' n' cap' w hu hv hcnt
  have hal := ((Below.refl w.heap.size w).alloc (Nat.le_refl _) (.cells #[.int .i64 u.kind, .string u.text, .int .i64 u.int, .float .f64 u.real, .bool u.flag, .slice a n cap] 25)).alloc (by simp) (.cells #[.int .i64 v.kind, .string v.text, .int .i64 v.int, .float .f64 v.real, .bool v.flag, .slice a' n' cap'] 25)
  replace ih := Lib.hid ih
  by_cases c1 : u.kind = v.kind
  case neg =>
    have hd : ¬ u.norm = v.norm := fun h => c1 ((V.norm_eq u v).1 h).1
    have b1 : (u.kind == v.kind) = false := by simpa using c1
    replace hal := Lib.hid hal
    clear hu hv hcnt c1 ih
    replace hd := Lib.hid hd
    go_enter Tryd.func23, Tryd.ntmps23
    go_wp2_with (go_at_call 31; refine (rsame_any _ _ _).mono ?_; rintro e w' ⟨rfl, rfl⟩)
    go_ret
    exact ⟨false, rfl, by simp [hd.out], hal.out⟩
  have b1 : (u.kind == v.kind) = true := by simpa using c1
  by_cases c2 : u.text = v.text
  case neg =>
    have hd : ¬ u.norm = v.norm := fun h => c2 ((V.norm_eq u v).1 h).2.1
    have b2 : (u.text.toList == v.text.toList) = false := by rw [str_beq]; exact decide_eq_false c2
    replace hal := Lib.hid hal
    clear hu hv hcnt c1 c2 ih
    replace hd := Lib.hid hd
    go_enter Tryd.func23, Tryd.ntmps23
    go_wp2_with (go_at_call 31; refine (rsame_any _ _ _).mono ?_; rintro e w' ⟨rfl, rfl⟩)
    go_ret
    exact ⟨false, rfl, by simp [hd.out], hal.out⟩
  have b2 : (u.text.toList == v.text.toList) = true := by rw [str_beq]; exact decide_eq_true c2
  by_cases c3 : u.int = v.int
  case neg =>
    have hd : ¬ u.norm = v.norm := fun h => c3 ((V.norm_eq u v).1 h).2.2.1
    have b3 : (u.int == v.int) = false := by simpa using c3
    replace hal := Lib.hid hal
    clear hu hv hcnt c1 c2 c3 ih
    replace hd := Lib.hid hd
    go_enter Tryd.func23, Tryd.ntmps23
    go_wp2_with (go_at_call 31; refine (rsame_any _ _ _).mono ?_; rintro e w' ⟨rfl, rfl⟩)
    go_ret
    exact ⟨false, rfl, by simp [hd.out], hal.out⟩
  have b3 : (u.int == v.int) = true := by simpa using c3
  by_cases c4 : bitsN u.real = bitsN v.real
  case neg =>
    have hd : ¬ u.norm = v.norm := fun h => c4 ((V.norm_eq u v).1 h).2.2.2.1
    have b4 : decide (bitsN u.real = bitsN v.real) = false := decide_eq_false c4
    replace hal := Lib.hid hal
    clear hu hv hcnt c1 c2 c3 c4 ih
    replace hd := Lib.hid hd
    go_enter Tryd.func23, Tryd.ntmps23
    go_wp2_with (go_at_call 31; refine (rsame_any _ _ _).mono ?_; rintro e w' ⟨rfl, rfl⟩)
    go_ret
    exact ⟨false, rfl, by simp [hd.out], hal.out⟩
  have b4 : decide (bitsN u.real = bitsN v.real) = true := decide_eq_true c4
  by_cases c5 : u.flag = v.flag
  case neg =>
    have hd : ¬ u.norm = v.norm := fun h => c5 ((V.norm_eq u v).1 h).2.2.2.2.1
    have b5 : (u.flag == v.flag) = false := by simpa using c5
    replace hal := Lib.hid hal
    clear hu hv hcnt c1 c2 c3 c4 c5 ih
    replace hd := Lib.hid hd
    go_enter Tryd.func23, Tryd.ntmps23
    go_wp2_with (go_at_call 31; refine (rsame_any _ _ _).mono ?_; rintro e w' ⟨rfl, rfl⟩)
    go_ret
    exact ⟨false, rfl, by simp [hd.out], hal.out⟩
  have b5 : (u.flag == v.flag) = true := by simpa using c5
  have hnorm : u.norm = v.norm ↔ u.list.map V.norm = v.list.map V.norm := by
    rw [V.norm_eq]; simp [c1, c2, c3, c4, c5]
  have hu' := hu.mono (cell_below hal)
  have hv' := hv.mono (cell_below hal)
  replace hnorm := Lib.hid hnorm
  replace hal := Lib.hid hal
  replace hu' := Lib.hid hu'
  replace hv' := Lib.hid hv'
  clear c1 c2 c3 c4 c5 hu hv
  go_enter Tryd.func23, Tryd.ntmps23
  go_wp2_with (first
    | (go_at_call 31; refine (rsame_any _ _ _).mono ?_; rintro e w' ⟨rfl, rfl⟩)
    | (go_at_call 32; refine (eqf_any u v ih.out a n cap a' n' cap' _ hu'.out hv'.out hcnt).mono ?_; rintro e w3 ⟨q, rfl, hq, hb3⟩; replace hq := Lib.hid hq))
  go_ret
  cases q <;> exact ⟨_, by first | rfl | simp, hq.out.trans hnorm.out.symm, hal.out.trans (hb3.mono hal.out.size)⟩
end Go.Proofs.YtapiinfnedhmoaaDoor
