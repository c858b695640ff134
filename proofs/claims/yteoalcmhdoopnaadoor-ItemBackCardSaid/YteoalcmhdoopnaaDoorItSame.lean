/- slices.Equal over fields, item.Same, and the document's. -/
import Derived.Test.YteoalcmhdoopnaaDoorItRef
namespace Go.Proofs.YteoalcmhdoopnaaDoor
open Go.RowKit

theorem fld_eq (f g : Fld) (W : World) : (Op.equalIn 10000 30 (.agg #[.string f.1, .string f.2]) (.agg #[.string g.1, .string g.2])).run Tryd.prog W = .ok (decide (f = g)) W := by
  have hS : Tryd.prog.underlying 30 = some (.struct (Tryd.prog.fieldsOf 30)) := by kernel_rfl
  have hp : Tryd.prog.stoodInHeld 30 = false := by kernel_rfl
  have u9 := Tryd.underlying9
  rw [show (10000 : Nat) = 9999 + 1 from rfl, run_equalIn_agg W 9999 30 _ _ hS hp]
  simp only [Program.fieldsOf, Tryd.underlying30]
  go_simp
  have e : f = g ↔ f.1 = g.1 ∧ f.2 = g.2 := Prod.ext_iff
  have s1 : f.1.toList = g.1.toList ↔ f.1 = g.1 := ⟨toList_inj', fun h => by rw [h]⟩
  have s2 : f.2.toList = g.2.toList ↔ f.2 = g.2 := ⟨toList_inj', fun h => by rw [h]⟩
  by_cases h1 : f.1 = g.1 <;> by_cases h2 : f.2 = g.2 <;> simp [e, h1, h2, s1, s2]
theorem fld_guard : Tryd.prog.eqGuardType Tryd.prog.depth 30 = false := by kernel_rfl
theorem fields_ext {fs gs : List Fld} {n : Nat} (h1 : fs.length = n) (h2 : gs.length = n) (h : fs.take n = gs.take n) : fs = gs := by
  rwa [List.take_of_length_le (by omega), List.take_of_length_le (by omega)] at h
theorem take_snoc_eq {fs gs : List Fld} {k : Nat} {f g : Fld} (hf : fs[k]? = some f) (hg : gs[k]? = some g) (h : fs.take k = gs.take k) : fs.take (k + 1) = gs.take (k + 1) ↔ f = g := by
  obtain ⟨h1, rfl⟩ := List.getElem?_eq_some_iff.1 hf
  obtain ⟨h2, rfl⟩ := List.getElem?_eq_some_iff.1 hg
  rw [List.take_succ_eq_append_getElem h1, List.take_succ_eq_append_getElem h2, h, List.append_right_inj, List.cons.injEq]
  simp only [and_true]
set_option maxRecDepth 100000 in
set_option maxHeartbeats 3200000 in
theorem equalF_any (a : Option Addr) (n cap : Nat) (fs : List Fld) (a' : Option Addr) (n' cap' : Nat) (gs : List Fld) (w : World) (hr : RF w a n cap fs) (hr' : RF w a' n' cap' gs) (hn : n ≤ 100000000) :
    Calls Tryd.prog 30 #[.slice a n cap, .slice a' n' cap'] w (QP w (fs = gs)) := by
  have hl := hr.len
  have hl' := hr'.len
  by_cases c1 : n = n'
  case neg =>
    have c1' : ((n : Int) != (n' : Int)) = true := by simp; omega
    have hno : ¬ fs = gs := fun e => c1 (by rw [← hl, ← hl', e])
    replace hno := Lib.hid hno
    clear hr hr' hl hl'
    go_enter Tryd.func30, Tryd.ntmps30
    go_wp2
    go_ret
    exact qp_false rfl hno.out (Below.refl _ _)
  subst c1
  have c1' : ((n : Int) != (n : Int)) = false := by simp
  replace hl := Lib.hid hl
  replace hl' := Lib.hid hl'
  replace hr := Lib.hid hr
  replace hr' := Lib.hid hr'
  have hgd := fld_guard
  go_enter Tryd.func30, Tryd.ntmps30
  go_wp2_with fail
  go_loopw [13] (fun i wr => ∃ j : Nat, j ≤ n ∧ i = .int .i64 j ∧ fs.take j = gs.take j ∧ Below w.heap.size w wr) (fun i _ => n - (intOf i).toNat)
  case atStart => exact ⟨0, Nat.zero_le _, rfl, rfl, Below.refl _ _⟩
  case round =>
    obtain ⟨j, hj, rfl, htk, hbel⟩ := hrel
    replace htk := Lib.hid htk
    by_cases hlt : j < n
    · obtain ⟨b, o, f, hf, rfl, d0, d1⟩ := hr.out.at hlt
      obtain ⟨b', o', g, hg, rfl, e0, e1⟩ := hr'.out.at hlt
      replace d0 := bcell hbel d0
      replace d1 := bcell hbel d1
      replace e0 := bcell hbel e0
      replace e1 := bcell hbel e1
      have z1 : b < wr.heap.size := World.block_lt_of_cell? _ _ d0
      have z2 : b' < wr.heap.size := World.block_lt_of_cell? _ _ e0
      have i0 : (0 : Int) ≤ (j : Int) := by omega
      have i1 : (j : Int) < (n : Int) := by omega
      have hq := fld_eq f g
      have hst := take_snoc_eq hf hg htk.out
      replace hst := Lib.hid hst
      replace hf := Lib.hid hf
      replace hg := Lib.hid hg
      by_cases hfg : f = g
      · rw [decide_eq_true hfg] at hq
        replace hfg := Lib.hid hfg
        go_upto_region 6 with fail
        refine wp_region_grow (by kernel_rfl) (by kernel_rfl) ?_
        repeat (go_big_quiet_step (fail))
        refine wpQuiet_nil ?_
        rintro _ ⟨xq, rfl⟩
        have hbq := hbel.trans ((grow_below wr xq).mono hbel.size)
        clear hq d0 d1 e0 e1
        go_wp2
        go_roundw
        case rel => exact ⟨j + 1, by omega, by go_num, hst.out.2 hfg.out, hbq⟩
        case measure => simp [intOf]; omega
      · rw [decide_eq_false hfg] at hq
        have hno : ¬ fs = gs := fun e => hfg (hst.out.1 (by rw [e]))
        replace hno := Lib.hid hno
        replace hfg := Lib.hid hfg
        go_upto_region 6 with fail
        refine wp_region_grow (by kernel_rfl) (by kernel_rfl) ?_
        repeat (go_big_quiet_step (fail))
        refine wpQuiet_nil ?_
        rintro _ ⟨xq, rfl⟩
        have hbq := hbel.trans ((grow_below wr xq).mono hbel.size)
        clear hq d0 d1 e0 e1
        go_wp2
        go_ret
        exact qp_false rfl hno.out hbq
    · have hjn : j = n := by omega
      subst hjn
      have he := fields_ext hl.out hl'.out htk.out
      replace he := Lib.hid he
      go_wp2
      go_ret
      exact qp_true rfl he.out hbel

def SameI (k : Int) (t : ByteArray) (fs : List Fld) (k' : Int) (t' : ByteArray) (gs : List Fld) : Prop := k = k' ∧ t = t' ∧ fs = gs
set_option maxRecDepth 100000 in
set_option maxHeartbeats 3200000 in
theorem isame_any (k : Int) (t : ByteArray) (a : Option Addr) (n cap : Nat) (fs : List Fld) (k' : Int) (t' : ByteArray) (a' : Option Addr) (n' cap' : Nat) (gs : List Fld) (w : World) (hr : RF w a n cap fs) (hr' : RF w a' n' cap' gs) (hn : n ≤ 100000000) :
    Calls Tryd.prog 13 #[.agg #[.int .i64 k, .string t, .slice a n cap], .agg #[.int .i64 k', .string t', .slice a' n' cap']] w (QP w (SameI k t fs k' t' gs)) := by
  have hal := ((Below.refl w.heap.size w).alloc (Nat.le_refl _) (.cells #[.int .i64 k, .string t, .slice a n cap] 24)).alloc (by simp) (.cells #[.int .i64 k', .string t', .slice a' n' cap'] 24)
  by_cases c1 : k = k'
  case neg =>
    have c1' : (k == k') = false := by simpa using c1
    have hno : ¬ SameI k t fs k' t' gs := fun h => c1 h.1
    replace hno := Lib.hid hno
    replace hal := Lib.hid hal
    clear hr hr' c1
    go_enter Tryd.func13, Tryd.ntmps13
    go_wp2
    go_ret
    exact qp_false rfl hno.out hal.out
  have c1' : (k == k') = true := by simpa using c1
  by_cases c2 : t = t'
  case neg =>
    have c2' := str_ne c2
    have hno : ¬ SameI k t fs k' t' gs := fun h => c2 h.2.1
    replace hno := Lib.hid hno
    replace hal := Lib.hid hal
    clear hr hr' c1 c2
    go_enter Tryd.func13, Tryd.ntmps13
    go_wp2
    go_ret
    exact qp_false rfl hno.out hal.out
  have c2' := str_eq c2
  have hiff : SameI k t fs k' t' gs ↔ fs = gs := ⟨fun h => h.2.2, fun h => ⟨c1, c2, h⟩⟩
  have hx := hr.below hal
  have hx' := hr'.below hal
  replace hal := Lib.hid hal
  replace hx := Lib.hid hx
  replace hx' := Lib.hid hx'
  replace hiff := Lib.hid hiff
  clear hr hr' c1 c2
  go_enter Tryd.func13, Tryd.ntmps13
  go_wp2_with (go_at_call 30; refine (equalF_any a n cap fs a' n' cap' gs _ hx.out hx'.out hn).mono ?_; rintro e w3 ⟨q, rfl, hq, hb3⟩; replace hq := Lib.hid hq)
  go_ret
  cases q
  · exact qp_false (by first | rfl | simp) (fun h => by have := hq.out.2 (hiff.out.1 h); cases this) (hal.out.trans (hb3.mono hal.out.size))
  · exact qp_true (by first | rfl | simp) (hiff.out.2 (hq.out.1 rfl)) (hal.out.trans (hb3.mono hal.out.size))

set_option maxRecDepth 100000 in
set_option maxHeartbeats 6400000 in
theorem rsame9_any (k : Int) (t : ByteArray) (a : Option Addr) (n cap : Nat) (fs : List Fld) (k' : Int) (t' : ByteArray) (a' : Option Addr) (n' cap' : Nat) (gs : List Fld) (w : World) (hr : RF w a n cap fs) (hr' : RF w a' n' cap' gs) (hn : n ≤ 100000000) :
    Calls Tryd.prog 14 #[.agg #[.int .i64 k, .string t, .slice a n cap], .agg #[.int .i64 k', .string t', .slice a' n' cap']] w (QP w (SameI k t fs k' t' gs)) := by
  have hl := hr.len
  have hl' := hr'.len
  obtain ⟨W2, hW2⟩ : ∃ W2, W2 = (w.alloc (.cells #[.int .i64 k, .string t, .slice a n cap] 24)).alloc (.cells #[.int .i64 k', .string t', .slice a' n' cap'] 24) := ⟨_, rfl⟩
  have hb2 : Below w.heap.size w W2 := by rw [hW2]; exact ((Below.refl w.heap.size w).alloc (Nat.le_refl _) _).alloc (by simp) _
  have g2 : W2.cell? ⟨w.heap.size, 2, none⟩ = some (.slice a n cap) := by rw [hW2, World.cell?_alloc_past _ _ _ (by simp), World.cell?_alloc_new]; rfl
  have h2 : W2.cell? ⟨w.heap.size + 1, 2, none⟩ = some (.slice a' n' cap') := by
    rw [hW2, show w.heap.size + 1 = (w.alloc (.cells #[.int .i64 k, .string t, .slice a n cap] 24)).heap.size by simp, World.cell?_alloc_new]; rfl
  replace hb2 := Lib.hid hb2
  replace g2 := Lib.hid g2
  replace h2 := Lib.hid h2
  by_cases c1 : k = k'
  case neg =>
    have c1' : (k != k') = true := by simpa using c1
    have hno : ¬ SameI k t fs k' t' gs := fun h => c1 h.1
    replace hno := Lib.hid hno
    rw [hW2] at hb2
    clear hr hr' c1 hl hl' g2 h2 hW2
    go_enter Tryd.func14, Tryd.ntmps14
    go_wp2
    go_ret
    exact qp_false rfl hno.out hb2.out
  have c1' : (k != k') = false := by simpa using c1
  by_cases c2 : t = t'
  case neg =>
    have c2' := str_ne c2
    have c2'' : (t.toList != t'.toList) = true := by simp only [bne, c2']; rfl
    have hno : ¬ SameI k t fs k' t' gs := fun h => c2 h.2.1
    replace hno := Lib.hid hno
    rw [hW2] at hb2
    clear hr hr' c1 c2 hl hl' g2 h2 hW2
    go_enter Tryd.func14, Tryd.ntmps14
    go_wp2
    go_ret
    exact qp_false rfl hno.out hb2.out
  have c2' := str_eq c2
  have c2'' : (t.toList != t'.toList) = false := by simp only [bne, c2']; rfl
  have hiff : SameI k t fs k' t' gs ↔ fs = gs := ⟨fun h => h.2.2, fun h => ⟨c1, c2, h⟩⟩
  replace hiff := Lib.hid hiff
  clear c1 c2
  by_cases c3 : n = n'
  case neg =>
    have c3' : ((n : Int) != (n' : Int)) = true := by simp; omega
    have hno : ¬ SameI k t fs k' t' gs := fun e => c3 (by rw [← hl, ← hl', hiff.out.1 e])
    replace hno := Lib.hid hno
    rw [hW2] at hb2
    clear hr hr' hl hl' g2 h2 hW2
    go_enter Tryd.func14, Tryd.ntmps14
    go_wp2
    go_ret
    exact qp_false rfl hno.out hb2.out
  subst c3
  have c3' : ((n : Int) != (n : Int)) = false := by simp
  replace hl := Lib.hid hl
  replace hl' := Lib.hid hl'
  replace hr := Lib.hid hr
  replace hr' := Lib.hid hr'
  have hgd := fld_guard
  go_enter Tryd.func14, Tryd.ntmps14
  go_wp2_with fail
  rw [← hW2]
  replace hW2 := Lib.hid hW2
  go_loopw [30] (fun i wr => ∃ j : Nat, j ≤ n ∧ i = .int .i64 j ∧ fs.take j = gs.take j ∧ Below W2.heap.size W2 wr) (fun i _ => n - (intOf i).toNat)
  case atStart => exact ⟨0, Nat.zero_le _, rfl, rfl, Below.refl _ _⟩
  case round =>
    obtain ⟨j, hj, rfl, htk, hbel2⟩ := hrel
    have hbel := hb2.out.trans (hbel2.mono hb2.out.size)
    have gg2 := bcell hbel2 g2.out
    have hh2 := bcell hbel2 h2.out
    replace htk := Lib.hid htk
    by_cases hlt : j < n
    · obtain ⟨b, o, f, hf, rfl, d0, d1⟩ := hr.out.at hlt
      obtain ⟨b', o', g, hg, rfl, e0, e1⟩ := hr'.out.at hlt
      replace d0 := bcell hbel d0
      replace d1 := bcell hbel d1
      replace e0 := bcell hbel e0
      replace e1 := bcell hbel e1
      have z1 : b < wr.heap.size := World.block_lt_of_cell? _ _ d0
      have z2 : b' < wr.heap.size := World.block_lt_of_cell? _ _ e0
      have z3 : w.heap.size < wr.heap.size := World.block_lt_of_cell? _ _ gg2
      have z4 : w.heap.size + 1 < wr.heap.size := World.block_lt_of_cell? _ _ hh2
      have i0 : (0 : Int) ≤ (j : Int) := by omega
      have i1 : (j : Int) < (n : Int) := by omega
      have hq := fld_eq f g
      have hst := take_snoc_eq hf hg htk.out
      replace hst := Lib.hid hst
      replace hf := Lib.hid hf
      replace hg := Lib.hid hg
      by_cases hfg : f = g
      · rw [decide_eq_true hfg] at hq
        replace hfg := Lib.hid hfg
        go_upto_region 6 with fail
        refine wp_region_grow (by kernel_rfl) (by kernel_rfl) ?_
        repeat (go_big_quiet_step (fail))
        refine wpQuiet_nil ?_
        rintro _ ⟨xq, rfl⟩
        have hbq := hbel2.trans ((grow_below wr xq).mono hbel2.size)
        clear hq d0 d1 e0 e1 gg2 hh2
        go_wp2
        go_roundw
        case rel => exact ⟨j + 1, by omega, by go_num, hst.out.2 hfg.out, hbq⟩
        case measure => simp [intOf]; omega
      · rw [decide_eq_false hfg] at hq
        have hno : ¬ SameI k t fs k' t' gs := fun e => hfg (hst.out.1 (by rw [hiff.out.1 e]))
        replace hno := Lib.hid hno
        replace hfg := Lib.hid hfg
        go_upto_region 6 with fail
        refine wp_region_grow (by kernel_rfl) (by kernel_rfl) ?_
        repeat (go_big_quiet_step (fail))
        refine wpQuiet_nil ?_
        rintro _ ⟨xq, rfl⟩
        have hbq := hbel.trans ((grow_below wr xq).mono hbel.size)
        clear hq d0 d1 e0 e1 gg2 hh2
        go_wp2
        go_ret
        exact qp_false rfl hno.out hbq
    · have hjn : j = n := by omega
      subst hjn
      have he := hiff.out.2 (fields_ext hl.out hl'.out htk.out)
      replace he := Lib.hid he
      clear gg2 hh2
      go_wp2
      go_ret
      exact qp_true rfl he.out hbel
end Go.Proofs.YteoalcmhdoopnaaDoor
