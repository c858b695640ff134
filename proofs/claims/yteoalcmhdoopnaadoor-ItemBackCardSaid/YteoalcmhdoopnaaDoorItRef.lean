/- The document's answer whether an item can be. -/
import Derived.Test.YteoalcmhdoopnaaDoorItRight
namespace Go.Proofs.YteoalcmhdoopnaaDoor
open Go.RowKit

theorem less_cmpB (a b : ByteArray) : Op.bytesLess a.toList b.toList = decide (cmpB a b < 0) := by
  rw [toList_data, toList_data, bytesLess_cmp]; rfl
theorem empty_facts {t : ByteArray} (h : t ≠ ⟨#[]⟩) : (t.toList == (⟨#[]⟩ : ByteArray).toList) = false ∧ t.toList.isEmpty = false ∧ ¬ t.toList = [] := by
  have h2 : t.toList.isEmpty = false := by
    cases h3 : t.toList with
    | nil => exact absurd (toList_inj' (b := ⟨#[]⟩) (by rw [h3, ByteArray.toList_eq])) h
    | cons x r => rfl
  exact ⟨str_ne h, h2, by intro h3; rw [h3] at h2; cases h2⟩
set_option maxRecDepth 100000 in
set_option maxHeartbeats 6400000 in
theorem rright_any (k : Int) (t : ByteArray) (a : Option Addr) (n cap : Nat) (fs : List Fld) (w : World) (hr : RF w a n cap fs) (hn : n ≤ 100000000) :
    Calls Tryd.prog 12 #[.agg #[.int .i64 k, .string t, .slice a n cap]] w (QP w (RightP k t fs)) := by
  have hl := hr.len
  have hal := (Below.refl w.heap.size w).alloc (Nat.le_refl _) (.cells #[.int .i64 k, .string t, .slice a n cap] 24)
  replace hal := Lib.hid hal
  by_cases k1 : k = 1
  · subst k1
    have hiff : RightP 1 t fs ↔ t.size ≤ 4096 ∧ n = 0 := by unfold RightP; rw [hl]; simp
    replace hiff := Lib.hid hiff
    clear hr hl
    by_cases c1 : t.size ≤ 4096
    · have c1' : (t.size : Int) ≤ 4096 := by omega
      by_cases c2 : n = 0
      · have c2' : ((n : Int) == 0) = true := by simp [c2]
        replace c2 := Lib.hid c2
        go_enter Tryd.func12, Tryd.ntmps12
        go_wp2
        go_ret
        exact qp_true rfl (hiff.out.2 ⟨c1, c2.out⟩) hal.out
      · have c2' : ((n : Int) == 0) = false := by simp [c2]
        go_enter Tryd.func12, Tryd.ntmps12
        go_wp2
        go_ret
        exact qp_false rfl (fun h => c2 (hiff.out.1 h).2) hal.out
    · have c1' : ¬ (t.size : Int) ≤ 4096 := by omega
      go_enter Tryd.func12, Tryd.ntmps12
      go_wp2
      go_ret
      exact qp_false rfl (fun h => c1 (hiff.out.1 h).1) hal.out
  have k1' : (k == 1) = false := by simpa using k1
  by_cases k2 : k = 2
  case neg =>
    have k2' : (k != 2) = true := by simpa using k2
    have hno : ¬ RightP k t fs := by unfold RightP; rintro (⟨h, _⟩ | ⟨h, _⟩); exact k1 h; exact k2 h
    replace hno := Lib.hid hno
    clear hr hl k1 k2
    go_enter Tryd.func12, Tryd.ntmps12
    go_wp2
    go_ret
    exact qp_false rfl hno.out hal.out
  subst k2
  clear k1 k1'
  have hiff : RightP 2 t fs → t = ⟨#[]⟩ ∧ 1 ≤ n ∧ n ≤ 256 ∧ (∀ f ∈ fs, fineF f) ∧ Srt fs := by
    unfold RightP; rw [hl]
    rintro (⟨h, _⟩ | ⟨_, h⟩)
    · cases h
    · exact h
  replace hiff := Lib.hid hiff
  by_cases c1 : t = ⟨#[]⟩
  case neg =>
    obtain ⟨c1a, c1b, c1c⟩ := empty_facts c1
    have c1d : (t.toList != (⟨#[]⟩ : ByteArray).toList) = true := by simp only [bne, c1a]; rfl
    replace c1 := Lib.hid c1
    clear hr hl
    go_enter Tryd.func12, Tryd.ntmps12
    go_wp2
    go_ret
    exact qp_false rfl (fun h => c1.out (hiff.out h).1) hal.out
  subst c1
  by_cases c2 : n = 0
  · have c2' : ((n : Int) == 0) = true := by simp [c2]
    replace c2 := Lib.hid c2
    clear hr hl
    go_enter Tryd.func12, Tryd.ntmps12
    go_wp2
    go_ret
    exact qp_false rfl (fun h => by have := (hiff.out h).2.1; have := c2.out; omega) hal.out
  have c2' : ((n : Int) == 0) = false := by simp [c2]
  by_cases c3 : 256 < n
  · have c3' : (256 : Int) < n := by omega
    clear hr hl
    go_enter Tryd.func12, Tryd.ntmps12
    go_wp2
    go_ret
    exact qp_false rfl (fun h => by have := (hiff.out h).2.2.1; omega) hal.out
  have c3' : ¬ (256 : Int) < n := by omega
  replace hl := Lib.hid hl
  replace hr := Lib.hid hr
  go_enter Tryd.func12, Tryd.ntmps12
  go_wp2_with fail
  go_loopw [41] (fun i wr => ∃ j : Nat, j ≤ n ∧ i = .int .i64 j ∧ (∀ f ∈ fs.take j, fineF f) ∧ Adj (fs.take j) ∧ Below w.heap.size w wr ∧ wr.cell? ⟨w.heap.size, 2, none⟩ = some (.slice a n cap)) (fun i _ => n - (intOf i).toNat)
  case atStart => exact ⟨0, Nat.zero_le _, rfl, by simp, (fun j hj => by simp at hj), hal.out, World.cell?_alloc_new _ _ _ 2⟩
  case round =>
    obtain ⟨j, hj, rfl, htk, hadj, hbel, g2⟩ := hrel
    replace htk := Lib.hid htk
    replace hadj := Lib.hid hadj
    by_cases hlt : j < n
    · obtain ⟨b, o, f, hf, rfl, d0, d1⟩ := hr.out.at hlt
      replace d0 := bcell hbel d0
      replace d1 := bcell hbel d1
      obtain ⟨W7, hW7⟩ : ∃ W7, W7 = wr.alloc (.cells #[.string f.1, .string f.2] 30) := ⟨_, rfl⟩
      have hb7 : Below w.heap.size w W7 := by rw [hW7]; exact hbel.alloc hbel.size _
      have hbw : Below wr.heap.size wr W7 := by rw [hW7]; exact (Below.refl _ _).alloc (Nat.le_refl _) _
      have p0 : W7.cell? ⟨wr.heap.size, 0, none⟩ = some (.string f.1) := by rw [hW7, World.cell?_alloc_new]; rfl
      have p1 : W7.cell? ⟨wr.heap.size, 1, none⟩ = some (.string f.2) := by rw [hW7, World.cell?_alloc_new]; rfl
      go_upto_region 8 with fail
      rw [← hW7]
      replace hf := Lib.hid hf
      replace g2 := bcell hbw g2
      clear d0 d1
      replace hW7 := Lib.hid hW7
      have z8 : wr.heap.size < W7.heap.size := World.block_lt_of_cell? _ _ p0
      have z9 : w.heap.size < W7.heap.size := World.block_lt_of_cell? _ _ g2
      by_cases e1 : 512 < f.1.size
      · have e1' : (512 : Int) < f.1.size := by omega
        refine wp_region_grow (by kernel_rfl) (by kernel_rfl) ?_
        repeat (go_big_quiet_step (fail))
        refine wpQuiet_nil ?_
        rintro _ ⟨xq, rfl⟩
        have hbq := hb7.trans ((grow_below W7 xq).mono hb7.size)
        clear p0 p1 g2
        go_wp2
        go_ret
        exact qp_false rfl (fun h => by have := (hiff.out h).2.2.2.1 f (List.mem_of_getElem? hf.out); unfold fineF at this; omega) hbq
      have e1' : ¬ (512 : Int) < f.1.size := by omega
      by_cases e2 : 4096 < f.2.size
      · have e2' : (4096 : Int) < f.2.size := by omega
        refine wp_region_grow (by kernel_rfl) (by kernel_rfl) ?_
        repeat (go_big_quiet_step (fail))
        refine wpQuiet_nil ?_
        rintro _ ⟨xq, rfl⟩
        have hbq := hb7.trans ((grow_below W7 xq).mono hb7.size)
        clear p0 p1 g2
        go_wp2
        go_ret
        exact qp_false rfl (fun h => by have := (hiff.out h).2.2.2.1 f (List.mem_of_getElem? hf.out); unfold fineF at this; omega) hbq
      have e2' : ¬ (4096 : Int) < f.2.size := by omega
      have hfine : fineF f := ⟨by omega, by omega⟩
      replace hfine := Lib.hid hfine
      by_cases hj0 : j = 0
      · subst hj0
        have hadj' : Adj (fs.take 1) := adj_take hadj.out hf.out (fun g h => absurd rfl h)
        replace hadj' := Lib.hid hadj'
        refine wp_region_grow (by kernel_rfl) (by kernel_rfl) ?_
        repeat (go_big_quiet_step (fail))
        refine wpQuiet_nil ?_
        rintro _ ⟨xq, rfl⟩
        have hbq := hb7.trans ((grow_below W7 xq).mono hb7.size)
        have gg2 := bcell (grow_below W7 xq) g2
        clear p0 p1 g2
        go_wp2
        go_roundw
        case rel => exact ⟨1, by omega, by go_num, take_all htk.out hf.out hfine.out, hadj'.out, hbq, gg2⟩
        case measure => simp [intOf]; omega
      · obtain ⟨m, hm⟩ : ∃ m, j = m + 1 := ⟨j - 1, by omega⟩
        obtain ⟨b', o', g, hg, hab, e0, e3⟩ := hr.out.at (show m < n by omega)
        simp only [Option.some.injEq, Addr.mk.injEq, and_true] at hab
        obtain ⟨rfl, rfl⟩ := hab
        replace e0 := bcell (hb7) e0
        replace e3 := bcell (hb7) e3
        have hj1 : 0 < j := by omega
        have hj2 : IntKind.i64.wrap ((j : Int) - 1) = (m : Int) := by rw [IntWalk.i64_in _ (by omega)]; omega
        have hm0 : (0 : Int) ≤ (m : Int) := by omega
        have hm1 : (m : Int) < (n : Int) := by omega
        have zb : b < W7.heap.size := World.block_lt_of_cell? _ _ e0
        have hless := less_cmpB g.1 f.1
        replace hg := Lib.hid hg
        by_cases hcn : cmpB g.1 f.1 < 0
        · have hls : Op.bytesLess g.1.toList f.1.toList = true := by rw [hless]; simpa using hcn
          have hadj' : Adj (fs.take (j + 1)) := adj_take hadj.out hf.out (fun g' _ h => by
            have e : fs[m]? = some g' := by rw [← h, hm]; rfl
            have : g' = g := by have := hg.out; rw [e] at this; exact Option.some.inj this
            rw [this]; exact hcn)
          replace hadj' := Lib.hid hadj'
          replace hm := Lib.hid hm
          clear hless hcn
          refine wp_region_grow (by kernel_rfl) (by kernel_rfl) ?_
          repeat (go_big_quiet_step (fail))
          refine wpQuiet_nil ?_
          rintro _ ⟨xq, rfl⟩
          have hbq := hb7.trans ((grow_below W7 xq).mono hb7.size)
          have gg2 := bcell (grow_below W7 xq) g2
          clear p0 p1 g2 e0 e3 hj2 hm0 hm1 hls
          go_wp2
          go_roundw
          case rel => exact ⟨j + 1, by omega, by go_num, take_all htk.out hf.out hfine.out, hadj'.out, hbq, gg2⟩
          case measure => simp [intOf]; omega
        · have hls : Op.bytesLess g.1.toList f.1.toList = false := by rw [hless]; simpa using hcn
          have hno : ¬ RightP 2 ⟨#[]⟩ fs := fun h => by
            have h := (hiff.out h).2.2.2.2
            obtain ⟨hjl, hfe⟩ := List.getElem?_eq_some_iff.1 hf.out
            obtain ⟨hml, hge⟩ := List.getElem?_eq_some_iff.1 hg.out
            have := List.pairwise_iff_getElem.1 h m j hml hjl (by omega)
            rw [hfe, hge] at this
            exact hcn this
          replace hno := Lib.hid hno
          replace hm := Lib.hid hm
          clear hless hcn
          refine wp_region_grow (by kernel_rfl) (by kernel_rfl) ?_
          repeat (go_big_quiet_step (fail))
          refine wpQuiet_nil ?_
          rintro _ ⟨xq, rfl⟩
          have hbq := hb7.trans ((grow_below W7 xq).mono hb7.size)
          clear p0 p1 g2 e0 e3 hj2 hm0 hm1 hls
          go_wp2
          go_ret
          exact qp_false rfl hno.out hbq
    · have hjn : j = n := by omega
      subst hjn
      have hsrt : Srt fs := srt_of_adj (by have := hadj.out; rwa [List.take_of_length_le (by rw [hl.out]; exact Nat.le_refl _)] at this)
      have hyes : RightP 2 ⟨#[]⟩ fs := Or.inr ⟨rfl, rfl, by rw [hl.out]; omega, by rw [hl.out]; omega, take_whole htk.out hl.out, hsrt⟩
      replace hyes := Lib.hid hyes
      clear hsrt htk hadj hr hl
      go_wp2
      go_ret
      exact qp_true rfl hyes.out hbel
end Go.Proofs.YteoalcmhdoopnaaDoor
