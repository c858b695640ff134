/- nearhandref17.Check. -/
import Derived.Test.YtdhojdkeidilfaaDoorFind2
namespace Go.Proofs.YtdhojdkeidilfaaDoor
open Go.RowKit

def rcR (i : Nat) (w w' : World) : Prop := match i with
  | 3 => Below w.heap.size w w'
  | 5 => True
  | _ => w' = w
namespace R2
set_option maxRecDepth 100000 in
set_option maxHeartbeats 12800000 in
theorem refCheck_any {w : World} {a : Option Addr} {n ca : Nat} {keys : List ByteArray} (hx : Reads w 1 (.slice a n ca) n (keys.map Value.string)) (hs : ∀ k ∈ keys, k.size ≤ 140737488355328) (hn : n ≤ 1000000) :
    Calls Tryd.prog 14 #[.slice a n ca] w fun e w' => e = .returned (.tuple #[.agg (checkF keys).1.cells.toArray, .string (checkF keys).2]) ∧ Below w.heap.size w w' := by
  have lx := hx.len.2
  simp only [List.length_map, Nat.mul_one] at lx
  have hz := new7 zeroSpec w
  have ht := there_of (n := 7) hz (Blk.new _ _ _) rfl
  have hl0 : w.heap.size < (w.alloc (.cells #[.string ⟨#[]⟩, .int .i64 0, .int .i64 0, .int .i64 0, .int .i64 0, .int .i64 0, .int .i64 0] 26)).heap.size := by simp
  have hs0 : (w.alloc (.cells #[.string ⟨#[]⟩, .int .i64 0, .int .i64 0, .int .i64 0, .int .i64 0, .int .i64 0, .int .i64 0] 26)).heap.size = w.heap.size + 1 := by simp
  have hb0 := (Below.refl w.heap.size w).alloc (Nat.le_refl _) (.cells #[.string ⟨#[]⟩, .int .i64 0, .int .i64 0, .int .i64 0, .int .i64 0, .int .i64 0, .int .i64 0] 26)
  replace ht : (w.alloc (.cells #[.string ⟨#[]⟩, .int .i64 0, .int .i64 0, .int .i64 0, .int .i64 0, .int .i64 0, .int .i64 0] 26)).there w.heap.size 0 7 := ht
  have hz1 := new7 zeroSpec (w.alloc (.cells #[.string ⟨#[]⟩, .int .i64 0, .int .i64 0, .int .i64 0, .int .i64 0, .int .i64 0, .int .i64 0] 26))
  have hb1 := (Below.refl (w.alloc (.cells #[.string ⟨#[]⟩, .int .i64 0, .int .i64 0, .int .i64 0, .int .i64 0, .int .i64 0, .int .i64 0] 26)).heap.size (w.alloc (.cells #[.string ⟨#[]⟩, .int .i64 0, .int .i64 0, .int .i64 0, .int .i64 0, .int .i64 0, .int .i64 0] 26))).alloc (Nat.le_refl _) (.cells #[.string ⟨#[]⟩, .int .i64 0, .int .i64 0, .int .i64 0, .int .i64 0, .int .i64 0, .int .i64 0] 26)
  have ht2 := there_below hb1 hl0 ht
  have hl2 := Nat.lt_of_lt_of_le hl0 hb1.size
  have hbb := hb0.trans (hb1.mono hb0.size)
  have hx2 := (hx.below hb0).below hb1
  rw [hs0] at hz1
  replace hz1 : ((w.alloc (.cells #[.string ⟨#[]⟩, .int .i64 0, .int .i64 0, .int .i64 0, .int .i64 0, .int .i64 0, .int .i64 0] 26)).alloc (.cells #[.string ⟨#[]⟩, .int .i64 0, .int .i64 0, .int .i64 0, .int .i64 0, .int .i64 0, .int .i64 0] 26)).rangeAt (w.heap.size + 1) 0 zeroSpec.cells := hz1
  clear hz ht hl0 hs0 hb0 hb1 hx
  obtain ⟨z0, z1, z2, z3, z4, z5, z6⟩ := cells7 zeroSpec hz1
  replace hbb := Lib.hid hbb
  replace hl2 := Lib.hid hl2
  replace hz1 := Lib.hid hz1
  replace hx2 := Lib.hid hx2
  cases keys with
  | nil =>
    obtain rfl : n = 0 := by simpa using lx.symm
    replace hth := ht2
    clear ht2 lx hs hx2
    go_enter Tryd.func14, Tryd.ntmps14
    have hr5 := World.rangeAt_setCells_same (w := ((w.alloc (.cells #[.string ⟨#[]⟩, .int .i64 0, .int .i64 0, .int .i64 0, .int .i64 0, .int .i64 0, .int .i64 0] 26)).alloc (.cells #[.string ⟨#[]⟩, .int .i64 0, .int .i64 0, .int .i64 0, .int .i64 0, .int .i64 0, .int .i64 0] 26))) (b := w.heap.size) (o := 0) zeroSpec.cells hth
    have hbs : Below w.heap.size w ((((w.alloc (.cells #[.string ⟨#[]⟩, .int .i64 0, .int .i64 0, .int .i64 0, .int .i64 0, .int .i64 0, .int .i64 0] 26)).alloc (.cells #[.string ⟨#[]⟩, .int .i64 0, .int .i64 0, .int .i64 0, .int .i64 0, .int .i64 0, .int .i64 0] 26))).setCells w.heap.size 0 zeroSpec.cells) := Below.setCells' (Nat.le_refl _) _ _ _ hbb.out
    replace hr5 := Lib.hid hr5
    replace hbs := Lib.hid hbs
    replace hth := Lib.hid hth
    go_wp2_with (refine wpList_store_mid rfl 26 _ _ rfl w.heap.size 0 _ rfl rfl hth.out infoSpec (one7 _ _ _ _ _ _ _) ?_)
    exact bodyPost_ret (results_cell2 (v := .agg (zeroSpec.cells).toArray) rfl rfl (run_loadVar_mid (P := Tryd.prog) _ _ 0 26 _ _ hr5.out Tryd.underlying26 rfl infoSpec)) rfl ⟨by rfl, hbs.out⟩
  | cons k ks =>
    replace ht2 := Lib.hid ht2
    have hnz : ((n : Int) == 0) = false := by simp at lx; simp; omega
    have hn0 : (0 : Int) < n := by simp at lx; omega
    obtain ⟨b3, o3, rfl, hc3⟩ := hx2.out.at (j := 0) (by simp)
    have dx := hc3 0 (.string k) rfl
    rw [Nat.add_zero] at dx
    have hks := hs k (by simp)
    have hln : ((k :: ks).length : Int) = n := by rw [lx]
    replace hln := Lib.hid hln
    clear hc3 hs lx
    go_enter Tryd.func14, Tryd.ntmps14
    go_wp2_with fail
    generalize (w.alloc (.cells #[.string ⟨#[]⟩, .int .i64 0, .int .i64 0, .int .i64 0, .int .i64 0, .int .i64 0, .int .i64 0] 26)).alloc (.cells #[.string ⟨#[]⟩, .int .i64 0, .int .i64 0, .int .i64 0, .int .i64 0, .int .i64 0, .int .i64 0] 26) = w3 at *
    refine (refFind_any k hks w3).mono ?_
    rintro e w4 ⟨he, hb4⟩
    obtain ⟨x, hxq⟩ : ∃ x, x = (found words17 (upB k)).1 := ⟨_, rfl⟩
    obtain ⟨f, hfq⟩ : ∃ f, f = (found words17 (upB k)).2 := ⟨_, rfl⟩
    have hcF : checkF (k :: ks) = if f = false then (zeroSpec, eUnknown) else checkS x n := by rw [checkF, ← hfq, ← hxq, hln.out]
    have hxm : f = true → x ∈ words17 := fun h => by rw [hxq]; exact found_mem (by rw [← hfq]; exact h)
    rw [← hxq, ← hfq] at he
    replace he : e = .returned (.tuple #[.agg #[.string x.name, .int .i64 x.kind, .int .i64 x.least, .int .i64 x.most, .int .i64 x.first, .int .i64 x.last, .int .i64 x.step], .bool f]) := he
    subst he
    have hb5 := (Below.refl w4.heap.size w4).alloc (Nat.le_refl _) (.cells #[.string x.name, .int .i64 x.kind, .int .i64 x.least, .int .i64 x.most, .int .i64 x.first, .int .i64 x.last, .int .i64 x.step] 26)
    have hcells := new7 x w4
    have ht5 := there_below hb5 (Nat.lt_of_lt_of_le hl2.out hb4.size) (there_below hb4 hl2.out ht2.out)
    have hlt5 := Nat.lt_of_lt_of_le (Nat.lt_of_lt_of_le hl2.out hb4.size) hb5.size
    have hzr := range_below hb5 (range_below hb4 hz1.out)
    have hb14 := hbb.out.trans (hb4.mono hbb.out.size)
    have hb15 := hb14.trans (hb5.mono hb14.size)
    clear hbb hb4 hb5 hb14 z0 z1 z2 z3 z4 z5 z6 hxq hfq ht2 hx2 hz1 dx hl2
    obtain ⟨z0, z1, z2, z3, z4, z5, z6⟩ := cells7 zeroSpec hzr
    obtain ⟨y0, y1, y2, y3, y4, y5, y6⟩ := cells7 x hcells
    have hbb := Lib.hid hb15
    replace ht5 := Lib.hid ht5
    replace hlt5 := Lib.hid hlt5
    replace hcells := Lib.hid hcells
    replace hzr := Lib.hid hzr
    replace hcF := Lib.hid hcF
    clear hb15
    cases f with
    | false =>
      have hcF1 : checkF (k :: ks) = (zeroSpec, eUnknown) := hcF.out
      replace hcF1 := Lib.hid hcF1
      clear hcF hxm y0 y1 y2 y3 y4 y5 y6
      have hth := ht5.out
      clear ht5
      have hr5 := World.rangeAt_setCells_same (w := (w4.alloc (.cells #[.string x.name, .int .i64 x.kind, .int .i64 x.least, .int .i64 x.most, .int .i64 x.first, .int .i64 x.last, .int .i64 x.step] 26))) (b := w.heap.size) (o := 0) zeroSpec.cells hth
      have hbs : Below w.heap.size w (((w4.alloc (.cells #[.string x.name, .int .i64 x.kind, .int .i64 x.least, .int .i64 x.most, .int .i64 x.first, .int .i64 x.last, .int .i64 x.step] 26))).setCells w.heap.size 0 zeroSpec.cells) := Below.setCells' (Nat.le_refl _) _ _ _ hbb.out
      replace hr5 := Lib.hid hr5
      replace hbs := Lib.hid hbs
      replace hth := Lib.hid hth
      go_wp2_with (refine wpList_store_mid rfl 26 _ _ rfl w.heap.size 0 _ rfl rfl hth.out infoSpec (one7 _ _ _ _ _ _ _) ?_)
      exact bodyPost_ret (results_cell2 (v := .agg (zeroSpec.cells).toArray) rfl rfl (run_loadVar_mid (P := Tryd.prog) _ _ 0 26 _ _ hr5.out Tryd.underlying26 rfl infoSpec)) rfl ⟨by (rw [hcF1.out]; rfl), hbs.out⟩
    | true =>
      replace hcF := Lib.hid (show checkF (k :: ks) = checkS x n from hcF.out)
      replace hxm := Lib.hid (hxm rfl)
      have hth := ht5.out
      clear ht5 z0 z1 z2 z3 z4 z5 z6
      have hmB : (x.name.toList == [77, 83, 69, 84]) = decide (x.name = ⟨#[77, 83, 69, 84]⟩) := str_beqL _ _
      have hhB : (x.name.toList == [72, 83, 69, 84]) = decide (x.name = ⟨#[72, 83, 69, 84]⟩) := str_beqL _ _
      obtain ⟨M, hM⟩ : ∃ M, M = (x.name.toList == [77, 83, 69, 84]) := ⟨_, rfl⟩
      obtain ⟨H, hH⟩ : ∃ H, H = (x.name.toList == [72, 83, 69, 84]) := ⟨_, rfl⟩
      have hr : oddB x.name n = ((M && decide ((n : Int) % 2 = 0)) || (H && decide ((n : Int) % 2 = 1))) := by rw [oddB, hM, hH, hmB, hhB]
      have hMH : M = true → H = false := fun h => by
        rw [hM, hmB] at h
        rw [hH, hhB, of_decide_eq_true h]; decide
      replace hr := Lib.hid hr
      replace hM := hM.symm
      replace hH := hH.symm
      replace hMH := Lib.hid hMH
      clear hmB hhB
      have hw1 : (n : Int).tmod 2 = (n : Int) % 2 := Int.tmod_eq_emod_of_nonneg (by omega)
      cases M with
      | true =>
        obtain rfl := hMH.out rfl
        rcases Int.emod_two_eq (n : Int) with hp | hp
        · have hw : wrongB x n = true := by rw [wrongB]; first | (rw [hd1.out]; rfl) | (rw [hd2.out, Bool.or_true]; rfl) | (rw [hr.out]; simp [hp])
          have hcF1 : checkF (k :: ks) = (zeroSpec, eWrong x.name) := by rw [hcF.out, checkS, hw]; rfl
          replace hcF1 := Lib.hid hcF1
          clear hw hcF hr
          go_wp2_with fail
          generalize w4.alloc (.cells #[.string x.name, .int .i64 x.kind, .int .i64 x.least, .int .i64 x.most, .int .i64 x.first, .int .i64 x.last, .int .i64 x.step] 26) = w5 at *
          obtain ⟨nm, hnm⟩ : ∃ z, z = x.name := ⟨_, rfl⟩
          obtain ⟨B5, hB5e⟩ : ∃ z, z = w4.heap.size := ⟨_, rfl⟩
          obtain ⟨rb, hrb⟩ : ∃ z, z = w.heap.size := ⟨_, rfl⟩
          obtain ⟨W, hW⟩ : ∃ z, z = w5 := ⟨_, rfl⟩
          have hn5 := (cells7 x hcells.out).1
          rw [← hB5e, ← hnm, ← hW] at hn5
          have hB5 : B5 < W.heap.size := World.block_lt_of_cell? _ _ hn5
          have hzr := hzr.out
          have hnl : nm.size ≤ 140737488355328 := by rw [hnm]; exact Nat.le_trans (names_short x hxm.out) (by omega)
          have hll : ¬ 9223372036854775807 < 34 + (lowB nm).size := by
            have h9 : (lowB nm).size = nm.size := by rw [lowB_eq]; show (List.map lowb nm.data.toList).toArray.size = nm.data.size; simp
            omega
          have hrl : rb < W.heap.size := by rw [hW, hrb]; exact hlt5.out
          have hth := hth
          rw [← hrb, ← hW] at hth
          rw [← hW, ← hrb] at hzr
          rw [← hnm] at hcF1
          have hbw : Below w.heap.size w W := by rw [hW]; exact hbb.out
          rw [← hB5e, ← hrb, ← hW]
          refine R2.wp_region_rely (l := [_, _, _, _, _, _, _]) (fun _ => True) (Below W.heap.size W) rcR (fun kG_ => ([fun v _ => v = .agg #[.string ⟨#[]⟩, .int .i64 0, .int .i64 0, .int .i64 0, .int .i64 0, .int .i64 0, .int .i64 0], fun v _ => v = .pointer (some ⟨B5, 0, none⟩), fun v _ => v = .string nm, fun v _ => v = .string (lowB nm), fun v _ => v = .string (eWrong nm), fun v w => ∃ w1 : World, w = w1.setCells rb 0 zeroSpec.cells ∧ Below W.heap.size W w1, fun v _ => v = .string (eWrong nm)] : List (Value → World → Prop)).getD kG_ (fun _ _ => True)) (eats []) (isIn [5]) (by kernel_rfl) (by kernel_rfl) (by kernel_rfl) trivial ((Below.refl _ _).drew) ?_ ?_ ?_ ?_
          · intro i kG_ u w w' hne hE hg hr
            rcases kG_ with _ | _ | _ | _ | _ | _ | _ | kG_
            · exact hg
            · exact hg
            · exact hg
            · exact hg
            · exact hg
            · replace hg : (fun (v : Value) (w : World) => ∃ w1 : World, w = w1.setCells rb 0 zeroSpec.cells ∧ Below W.heap.size W w1) u w := hg
              show (fun (v : Value) (w : World) => ∃ w1 : World, w = w1.setCells rb 0 zeroSpec.cells ∧ Below W.heap.size W w1) u w'
              dsimp only at hg ⊢
              replace hE : exB _ _ i 5 = false := hE
              replace hne : 5 ≠ i := hne
              unfold rcR at hr
              split at hr
              all_goals first
                | exact absurd rfl hne
                | exact absurd (hE.symm.trans (by decide +kernel : exB _ _ _ _ = true)) (by decide)
                | (subst hr; exact hg)
                | (fail)
            · exact hg
            · trivial
          · intro i w w' hF hI hr
            unfold rcR at hr
            split at hr
            · exact hI.trans (hr.mono hI.size)
            · exact absurd hF (by decide)
            · subst hr; exact hI
          · refine ⟨?_, ?_, ?_, ?_, ?_, ?_, ?_, trivial⟩
            · refine VC.plain rfl fun a wx hf => ?_
              have s4 := hf.old 4 (by first | rfl | kernel_rfl)
              have q4 := evalQ s4
              have hI := hf.start (by kernel_rfl)
              exact gives_load_mid rfl s4 (range_below hI hzr) Tryd.underlying26 rfl infoSpec ⟨trivial, rfl, rfl⟩
            · refine VC.plain rfl fun a wx hf => ?_
              have s5 := hf.old 5 (by first | rfl | kernel_rfl)
              have q5 := evalQ s5
              exact gives_value (by simp [go_sem, q5, hll, eWrong]) ⟨hf.c, rfl, rfl⟩
            · refine VC.plain rfl fun a wx hf => ?_
              obtain ⟨v59, g59, s59⟩ := hf.got 1 (by kernel_rfl) (by intro j hj; simp [eats] at hj) rfl rfl
              replace s59 := s59.trans (show v59 = .pointer (some ⟨B5, 0, none⟩) from g59)
              clear g59
              have q59 := evalQ s59
              have hI := hf.start (by kernel_rfl)
              exact gives_value (by simp [go_sem, q59, hI.cell (p := ⟨B5, 0, none⟩) hB5, hn5]) ⟨trivial, rfl, rfl⟩
            · refine VC.plain rfl fun a wx hf => ?_
              obtain ⟨v60, g60, s60⟩ := hf.got 2 (by kernel_rfl) (by intro j hj; simp [eats] at hj) rfl rfl
              replace s60 := s60.trans (show v60 = .string nm from g60)
              clear g60
              have q60 := evalQ s60
              exact gives_call (f := 29) (args := #[.string nm]) (by simp [go_sem, q60]) ((refLower_any nm hnl wx).mono fun e w' ⟨he, hb⟩ => ⟨_, he, trivial, hb, rfl⟩)
            · refine VC.plain rfl fun a wx hf => ?_
              obtain ⟨v61, g61, s61⟩ := hf.got 3 (by kernel_rfl) (by intro j hj; simp [eats] at hj) rfl rfl
              replace s61 := s61.trans (show v61 = .string (lowB nm) from g61)
              clear g61
              have q61 := evalQ s61
              exact gives_value (by simp [go_sem, q61, hll, eWrong]) ⟨hf.c, rfl, rfl⟩
            · refine VC.plain rfl fun a wx hf => ?_
              have s2 := hf.old 2 (by first | rfl | kernel_rfl)
              have q2 := evalQ s2
              obtain ⟨v58, g58, s58⟩ := hf.got 0 (by kernel_rfl) (by intro j hj; simp [eats] at hj) rfl rfl
              replace s58 := s58.trans (show v58 = .agg #[.string ⟨#[]⟩, .int .i64 0, .int .i64 0, .int .i64 0, .int .i64 0, .int .i64 0, .int .i64 0] from g58)
              clear g58
              have q58 := evalQ s58
              have hI := hf.start (by kernel_rfl)
              exact gives_store_mid rfl s2 s58 (there_below hI hrl hth) infoSpec (one7 _ _ _ _ _ _ _) ⟨trivial, trivial, wx, rfl, hI⟩
            · refine VC.plain rfl fun a wx hf => ?_
              obtain ⟨v62, g62, s62⟩ := hf.got 4 (by kernel_rfl) (by intro j hj; simp [eats] at hj) rfl rfl
              replace s62 := s62.trans (show v62 = .string (eWrong nm) from g62)
              clear g62
              have q62 := evalQ s62
              exact gives_value (by simp [go_sem, q62]) ⟨trivial, rfl, rfl⟩
          · intro vs w9 hb hG
            obtain ⟨w8, hw8, hb8⟩ := (show ∃ w1 : World, w9 = w1.setCells rb 0 zeroSpec.cells ∧ Below W.heap.size W w1 from hG 5 (by decide) (by decide))
            have n6 : vs 6 = .string (eWrong nm) := hG 6 (by decide) (by decide)
            subst hw8
            have hth8 := there_below hb8 hrl hth
            have hr5 := World.rangeAt_setCells_same (w := w8) (b := rb) (o := 0) zeroSpec.cells hth8
            have hb9 : Below w.heap.size w (w8.setCells rb 0 zeroSpec.cells) := Below.setCells' (by rw [hrb]; exact Nat.le_refl _) _ _ _ (hbw.trans (hb8.mono hbw.size))
            clear hG
            simp only [putFrom, Act.put, List.setIfInBounds_toArray, List.set_cons_zero, List.set_cons_succ]
            go_wp2
            exact bodyPost_ret (results_cell2 (v := .agg zeroSpec.cells.toArray) rfl rfl (run_loadVar_mid (P := Tryd.prog) _ _ 0 26 _ _ hr5 Tryd.underlying26 rfl infoSpec)) rfl ⟨by rw [hcF1.out, ← n6]; rfl, hb9⟩
        · rcases Int.lt_or_le (n : Int) x.least with hl | hl
          · have hd1 := Lib.hid (decide_eq_true hl)
            have hw : wrongB x n = true := by rw [wrongB]; first | (rw [hd1.out]; rfl) | (rw [hd2.out, Bool.or_true]; rfl) | (rw [hr.out]; simp [hp])
            have hcF1 : checkF (k :: ks) = (zeroSpec, eWrong x.name) := by rw [hcF.out, checkS, hw]; rfl
            replace hcF1 := Lib.hid hcF1
            clear hw hcF hr
            go_wp2_with fail
            generalize w4.alloc (.cells #[.string x.name, .int .i64 x.kind, .int .i64 x.least, .int .i64 x.most, .int .i64 x.first, .int .i64 x.last, .int .i64 x.step] 26) = w5 at *
            obtain ⟨nm, hnm⟩ : ∃ z, z = x.name := ⟨_, rfl⟩
            obtain ⟨B5, hB5e⟩ : ∃ z, z = w4.heap.size := ⟨_, rfl⟩
            obtain ⟨rb, hrb⟩ : ∃ z, z = w.heap.size := ⟨_, rfl⟩
            obtain ⟨W, hW⟩ : ∃ z, z = w5 := ⟨_, rfl⟩
            have hn5 := (cells7 x hcells.out).1
            rw [← hB5e, ← hnm, ← hW] at hn5
            have hB5 : B5 < W.heap.size := World.block_lt_of_cell? _ _ hn5
            have hzr := hzr.out
            have hnl : nm.size ≤ 140737488355328 := by rw [hnm]; exact Nat.le_trans (names_short x hxm.out) (by omega)
            have hll : ¬ 9223372036854775807 < 34 + (lowB nm).size := by
              have h9 : (lowB nm).size = nm.size := by rw [lowB_eq]; show (List.map lowb nm.data.toList).toArray.size = nm.data.size; simp
              omega
            have hrl : rb < W.heap.size := by rw [hW, hrb]; exact hlt5.out
            have hth := hth
            rw [← hrb, ← hW] at hth
            rw [← hW, ← hrb] at hzr
            rw [← hnm] at hcF1
            have hbw : Below w.heap.size w W := by rw [hW]; exact hbb.out
            rw [← hB5e, ← hrb, ← hW]
            refine R2.wp_region_rely (l := [_, _, _, _, _, _, _]) (fun _ => True) (Below W.heap.size W) rcR (fun kG_ => ([fun v _ => v = .agg #[.string ⟨#[]⟩, .int .i64 0, .int .i64 0, .int .i64 0, .int .i64 0, .int .i64 0, .int .i64 0], fun v _ => v = .pointer (some ⟨B5, 0, none⟩), fun v _ => v = .string nm, fun v _ => v = .string (lowB nm), fun v _ => v = .string (eWrong nm), fun v w => ∃ w1 : World, w = w1.setCells rb 0 zeroSpec.cells ∧ Below W.heap.size W w1, fun v _ => v = .string (eWrong nm)] : List (Value → World → Prop)).getD kG_ (fun _ _ => True)) (eats []) (isIn [5]) (by kernel_rfl) (by kernel_rfl) (by kernel_rfl) trivial ((Below.refl _ _).drew) ?_ ?_ ?_ ?_
            · intro i kG_ u w w' hne hE hg hr
              rcases kG_ with _ | _ | _ | _ | _ | _ | _ | kG_
              · exact hg
              · exact hg
              · exact hg
              · exact hg
              · exact hg
              · replace hg : (fun (v : Value) (w : World) => ∃ w1 : World, w = w1.setCells rb 0 zeroSpec.cells ∧ Below W.heap.size W w1) u w := hg
                show (fun (v : Value) (w : World) => ∃ w1 : World, w = w1.setCells rb 0 zeroSpec.cells ∧ Below W.heap.size W w1) u w'
                dsimp only at hg ⊢
                replace hE : exB _ _ i 5 = false := hE
                replace hne : 5 ≠ i := hne
                unfold rcR at hr
                split at hr
                all_goals first
                  | exact absurd rfl hne
                  | exact absurd (hE.symm.trans (by decide +kernel : exB _ _ _ _ = true)) (by decide)
                  | (subst hr; exact hg)
                  | (fail)
              · exact hg
              · trivial
            · intro i w w' hF hI hr
              unfold rcR at hr
              split at hr
              · exact hI.trans (hr.mono hI.size)
              · exact absurd hF (by decide)
              · subst hr; exact hI
            · refine ⟨?_, ?_, ?_, ?_, ?_, ?_, ?_, trivial⟩
              · refine VC.plain rfl fun a wx hf => ?_
                have s4 := hf.old 4 (by first | rfl | kernel_rfl)
                have q4 := evalQ s4
                have hI := hf.start (by kernel_rfl)
                exact gives_load_mid rfl s4 (range_below hI hzr) Tryd.underlying26 rfl infoSpec ⟨trivial, rfl, rfl⟩
              · refine VC.plain rfl fun a wx hf => ?_
                have s5 := hf.old 5 (by first | rfl | kernel_rfl)
                have q5 := evalQ s5
                exact gives_value (by simp [go_sem, q5, hll, eWrong]) ⟨hf.c, rfl, rfl⟩
              · refine VC.plain rfl fun a wx hf => ?_
                obtain ⟨v59, g59, s59⟩ := hf.got 1 (by kernel_rfl) (by intro j hj; simp [eats] at hj) rfl rfl
                replace s59 := s59.trans (show v59 = .pointer (some ⟨B5, 0, none⟩) from g59)
                clear g59
                have q59 := evalQ s59
                have hI := hf.start (by kernel_rfl)
                exact gives_value (by simp [go_sem, q59, hI.cell (p := ⟨B5, 0, none⟩) hB5, hn5]) ⟨trivial, rfl, rfl⟩
              · refine VC.plain rfl fun a wx hf => ?_
                obtain ⟨v60, g60, s60⟩ := hf.got 2 (by kernel_rfl) (by intro j hj; simp [eats] at hj) rfl rfl
                replace s60 := s60.trans (show v60 = .string nm from g60)
                clear g60
                have q60 := evalQ s60
                exact gives_call (f := 29) (args := #[.string nm]) (by simp [go_sem, q60]) ((refLower_any nm hnl wx).mono fun e w' ⟨he, hb⟩ => ⟨_, he, trivial, hb, rfl⟩)
              · refine VC.plain rfl fun a wx hf => ?_
                obtain ⟨v61, g61, s61⟩ := hf.got 3 (by kernel_rfl) (by intro j hj; simp [eats] at hj) rfl rfl
                replace s61 := s61.trans (show v61 = .string (lowB nm) from g61)
                clear g61
                have q61 := evalQ s61
                exact gives_value (by simp [go_sem, q61, hll, eWrong]) ⟨hf.c, rfl, rfl⟩
              · refine VC.plain rfl fun a wx hf => ?_
                have s2 := hf.old 2 (by first | rfl | kernel_rfl)
                have q2 := evalQ s2
                obtain ⟨v58, g58, s58⟩ := hf.got 0 (by kernel_rfl) (by intro j hj; simp [eats] at hj) rfl rfl
                replace s58 := s58.trans (show v58 = .agg #[.string ⟨#[]⟩, .int .i64 0, .int .i64 0, .int .i64 0, .int .i64 0, .int .i64 0, .int .i64 0] from g58)
                clear g58
                have q58 := evalQ s58
                have hI := hf.start (by kernel_rfl)
                exact gives_store_mid rfl s2 s58 (there_below hI hrl hth) infoSpec (one7 _ _ _ _ _ _ _) ⟨trivial, trivial, wx, rfl, hI⟩
              · refine VC.plain rfl fun a wx hf => ?_
                obtain ⟨v62, g62, s62⟩ := hf.got 4 (by kernel_rfl) (by intro j hj; simp [eats] at hj) rfl rfl
                replace s62 := s62.trans (show v62 = .string (eWrong nm) from g62)
                clear g62
                have q62 := evalQ s62
                exact gives_value (by simp [go_sem, q62]) ⟨trivial, rfl, rfl⟩
            · intro vs w9 hb hG
              obtain ⟨w8, hw8, hb8⟩ := (show ∃ w1 : World, w9 = w1.setCells rb 0 zeroSpec.cells ∧ Below W.heap.size W w1 from hG 5 (by decide) (by decide))
              have n6 : vs 6 = .string (eWrong nm) := hG 6 (by decide) (by decide)
              subst hw8
              have hth8 := there_below hb8 hrl hth
              have hr5 := World.rangeAt_setCells_same (w := w8) (b := rb) (o := 0) zeroSpec.cells hth8
              have hb9 : Below w.heap.size w (w8.setCells rb 0 zeroSpec.cells) := Below.setCells' (by rw [hrb]; exact Nat.le_refl _) _ _ _ (hbw.trans (hb8.mono hbw.size))
              clear hG
              simp only [putFrom, Act.put, List.setIfInBounds_toArray, List.set_cons_zero, List.set_cons_succ]
              go_wp2
              exact bodyPost_ret (results_cell2 (v := .agg zeroSpec.cells.toArray) rfl rfl (run_loadVar_mid (P := Tryd.prog) _ _ 0 26 _ _ hr5 Tryd.underlying26 rfl infoSpec)) rfl ⟨by rw [hcF1.out, ← n6]; rfl, hb9⟩
          · have hd1 := Lib.hid (decide_eq_false (Int.not_lt.2 hl))
            have hl1 : ¬ (n : Int) < x.least := by omega
            rcases Int.lt_or_le x.most (n : Int) with hg | hg
            · have hd2 := Lib.hid (decide_eq_true hg)
              have hw : wrongB x n = true := by rw [wrongB]; first | (rw [hd1.out]; rfl) | (rw [hd2.out, Bool.or_true]; rfl) | (rw [hr.out]; simp [hp])
              have hcF1 : checkF (k :: ks) = (zeroSpec, eWrong x.name) := by rw [hcF.out, checkS, hw]; rfl
              replace hcF1 := Lib.hid hcF1
              clear hw hcF hr
              go_wp2_with fail
              generalize w4.alloc (.cells #[.string x.name, .int .i64 x.kind, .int .i64 x.least, .int .i64 x.most, .int .i64 x.first, .int .i64 x.last, .int .i64 x.step] 26) = w5 at *
              obtain ⟨nm, hnm⟩ : ∃ z, z = x.name := ⟨_, rfl⟩
              obtain ⟨B5, hB5e⟩ : ∃ z, z = w4.heap.size := ⟨_, rfl⟩
              obtain ⟨rb, hrb⟩ : ∃ z, z = w.heap.size := ⟨_, rfl⟩
              obtain ⟨W, hW⟩ : ∃ z, z = w5 := ⟨_, rfl⟩
              have hn5 := (cells7 x hcells.out).1
              rw [← hB5e, ← hnm, ← hW] at hn5
              have hB5 : B5 < W.heap.size := World.block_lt_of_cell? _ _ hn5
              have hzr := hzr.out
              have hnl : nm.size ≤ 140737488355328 := by rw [hnm]; exact Nat.le_trans (names_short x hxm.out) (by omega)
              have hll : ¬ 9223372036854775807 < 34 + (lowB nm).size := by
                have h9 : (lowB nm).size = nm.size := by rw [lowB_eq]; show (List.map lowb nm.data.toList).toArray.size = nm.data.size; simp
                omega
              have hrl : rb < W.heap.size := by rw [hW, hrb]; exact hlt5.out
              have hth := hth
              rw [← hrb, ← hW] at hth
              rw [← hW, ← hrb] at hzr
              rw [← hnm] at hcF1
              have hbw : Below w.heap.size w W := by rw [hW]; exact hbb.out
              rw [← hB5e, ← hrb, ← hW]
              refine R2.wp_region_rely (l := [_, _, _, _, _, _, _]) (fun _ => True) (Below W.heap.size W) rcR (fun kG_ => ([fun v _ => v = .agg #[.string ⟨#[]⟩, .int .i64 0, .int .i64 0, .int .i64 0, .int .i64 0, .int .i64 0, .int .i64 0], fun v _ => v = .pointer (some ⟨B5, 0, none⟩), fun v _ => v = .string nm, fun v _ => v = .string (lowB nm), fun v _ => v = .string (eWrong nm), fun v w => ∃ w1 : World, w = w1.setCells rb 0 zeroSpec.cells ∧ Below W.heap.size W w1, fun v _ => v = .string (eWrong nm)] : List (Value → World → Prop)).getD kG_ (fun _ _ => True)) (eats []) (isIn [5]) (by kernel_rfl) (by kernel_rfl) (by kernel_rfl) trivial ((Below.refl _ _).drew) ?_ ?_ ?_ ?_
              · intro i kG_ u w w' hne hE hg hr
                rcases kG_ with _ | _ | _ | _ | _ | _ | _ | kG_
                · exact hg
                · exact hg
                · exact hg
                · exact hg
                · exact hg
                · replace hg : (fun (v : Value) (w : World) => ∃ w1 : World, w = w1.setCells rb 0 zeroSpec.cells ∧ Below W.heap.size W w1) u w := hg
                  show (fun (v : Value) (w : World) => ∃ w1 : World, w = w1.setCells rb 0 zeroSpec.cells ∧ Below W.heap.size W w1) u w'
                  dsimp only at hg ⊢
                  replace hE : exB _ _ i 5 = false := hE
                  replace hne : 5 ≠ i := hne
                  unfold rcR at hr
                  split at hr
                  all_goals first
                    | exact absurd rfl hne
                    | exact absurd (hE.symm.trans (by decide +kernel : exB _ _ _ _ = true)) (by decide)
                    | (subst hr; exact hg)
                    | (fail)
                · exact hg
                · trivial
              · intro i w w' hF hI hr
                unfold rcR at hr
                split at hr
                · exact hI.trans (hr.mono hI.size)
                · exact absurd hF (by decide)
                · subst hr; exact hI
              · refine ⟨?_, ?_, ?_, ?_, ?_, ?_, ?_, trivial⟩
                · refine VC.plain rfl fun a wx hf => ?_
                  have s4 := hf.old 4 (by first | rfl | kernel_rfl)
                  have q4 := evalQ s4
                  have hI := hf.start (by kernel_rfl)
                  exact gives_load_mid rfl s4 (range_below hI hzr) Tryd.underlying26 rfl infoSpec ⟨trivial, rfl, rfl⟩
                · refine VC.plain rfl fun a wx hf => ?_
                  have s5 := hf.old 5 (by first | rfl | kernel_rfl)
                  have q5 := evalQ s5
                  exact gives_value (by simp [go_sem, q5, hll, eWrong]) ⟨hf.c, rfl, rfl⟩
                · refine VC.plain rfl fun a wx hf => ?_
                  obtain ⟨v59, g59, s59⟩ := hf.got 1 (by kernel_rfl) (by intro j hj; simp [eats] at hj) rfl rfl
                  replace s59 := s59.trans (show v59 = .pointer (some ⟨B5, 0, none⟩) from g59)
                  clear g59
                  have q59 := evalQ s59
                  have hI := hf.start (by kernel_rfl)
                  exact gives_value (by simp [go_sem, q59, hI.cell (p := ⟨B5, 0, none⟩) hB5, hn5]) ⟨trivial, rfl, rfl⟩
                · refine VC.plain rfl fun a wx hf => ?_
                  obtain ⟨v60, g60, s60⟩ := hf.got 2 (by kernel_rfl) (by intro j hj; simp [eats] at hj) rfl rfl
                  replace s60 := s60.trans (show v60 = .string nm from g60)
                  clear g60
                  have q60 := evalQ s60
                  exact gives_call (f := 29) (args := #[.string nm]) (by simp [go_sem, q60]) ((refLower_any nm hnl wx).mono fun e w' ⟨he, hb⟩ => ⟨_, he, trivial, hb, rfl⟩)
                · refine VC.plain rfl fun a wx hf => ?_
                  obtain ⟨v61, g61, s61⟩ := hf.got 3 (by kernel_rfl) (by intro j hj; simp [eats] at hj) rfl rfl
                  replace s61 := s61.trans (show v61 = .string (lowB nm) from g61)
                  clear g61
                  have q61 := evalQ s61
                  exact gives_value (by simp [go_sem, q61, hll, eWrong]) ⟨hf.c, rfl, rfl⟩
                · refine VC.plain rfl fun a wx hf => ?_
                  have s2 := hf.old 2 (by first | rfl | kernel_rfl)
                  have q2 := evalQ s2
                  obtain ⟨v58, g58, s58⟩ := hf.got 0 (by kernel_rfl) (by intro j hj; simp [eats] at hj) rfl rfl
                  replace s58 := s58.trans (show v58 = .agg #[.string ⟨#[]⟩, .int .i64 0, .int .i64 0, .int .i64 0, .int .i64 0, .int .i64 0, .int .i64 0] from g58)
                  clear g58
                  have q58 := evalQ s58
                  have hI := hf.start (by kernel_rfl)
                  exact gives_store_mid rfl s2 s58 (there_below hI hrl hth) infoSpec (one7 _ _ _ _ _ _ _) ⟨trivial, trivial, wx, rfl, hI⟩
                · refine VC.plain rfl fun a wx hf => ?_
                  obtain ⟨v62, g62, s62⟩ := hf.got 4 (by kernel_rfl) (by intro j hj; simp [eats] at hj) rfl rfl
                  replace s62 := s62.trans (show v62 = .string (eWrong nm) from g62)
                  clear g62
                  have q62 := evalQ s62
                  exact gives_value (by simp [go_sem, q62]) ⟨trivial, rfl, rfl⟩
              · intro vs w9 hb hG
                obtain ⟨w8, hw8, hb8⟩ := (show ∃ w1 : World, w9 = w1.setCells rb 0 zeroSpec.cells ∧ Below W.heap.size W w1 from hG 5 (by decide) (by decide))
                have n6 : vs 6 = .string (eWrong nm) := hG 6 (by decide) (by decide)
                subst hw8
                have hth8 := there_below hb8 hrl hth
                have hr5 := World.rangeAt_setCells_same (w := w8) (b := rb) (o := 0) zeroSpec.cells hth8
                have hb9 : Below w.heap.size w (w8.setCells rb 0 zeroSpec.cells) := Below.setCells' (by rw [hrb]; exact Nat.le_refl _) _ _ _ (hbw.trans (hb8.mono hbw.size))
                clear hG
                simp only [putFrom, Act.put, List.setIfInBounds_toArray, List.set_cons_zero, List.set_cons_succ]
                go_wp2
                exact bodyPost_ret (results_cell2 (v := .agg zeroSpec.cells.toArray) rfl rfl (run_loadVar_mid (P := Tryd.prog) _ _ 0 26 _ _ hr5 Tryd.underlying26 rfl infoSpec)) rfl ⟨by rw [hcF1.out, ← n6]; rfl, hb9⟩
            · have hd2 := Lib.hid (decide_eq_false (Int.not_lt.2 hg))
              have hg1 : ¬ x.most < (n : Int) := by omega
              have hw : wrongB x n = false := by rw [wrongB, hd1.out, hd2.out, hr.out]; first | rfl | (rw [hp]; rfl)
              have hcF1 : checkF (k :: ks) = (x, ByteArray.empty) := by rw [hcF.out, checkS, hw]; rfl
              replace hcF1 := Lib.hid hcF1
              clear hw hcF hr hcells hd1 hd2
              have hr5 := World.rangeAt_setCells_same (w := (w4.alloc (.cells #[.string x.name, .int .i64 x.kind, .int .i64 x.least, .int .i64 x.most, .int .i64 x.first, .int .i64 x.last, .int .i64 x.step] 26))) (b := w.heap.size) (o := 0) x.cells hth
              have hbs : Below w.heap.size w (((w4.alloc (.cells #[.string x.name, .int .i64 x.kind, .int .i64 x.least, .int .i64 x.most, .int .i64 x.first, .int .i64 x.last, .int .i64 x.step] 26))).setCells w.heap.size 0 x.cells) := Below.setCells' (Nat.le_refl _) _ _ _ hbb.out
              replace hr5 := Lib.hid hr5
              replace hbs := Lib.hid hbs
              replace hth := Lib.hid hth
              go_wp2_with (refine wpList_store_mid rfl 26 _ _ rfl w.heap.size 0 _ rfl rfl hth.out infoSpec (one7 _ _ _ _ _ _ _) ?_)
              exact bodyPost_ret (results_cell2 (v := .agg (x.cells).toArray) rfl rfl (run_loadVar_mid (P := Tryd.prog) _ _ 0 26 _ _ hr5.out Tryd.underlying26 rfl infoSpec)) rfl ⟨by (rw [hcF1.out]; rfl), hbs.out⟩
      | false =>
        cases H with
        | true =>
          rcases Int.emod_two_eq (n : Int) with hp | hp
          · rcases Int.lt_or_le (n : Int) x.least with hl | hl
            · have hd1 := Lib.hid (decide_eq_true hl)
              have hw : wrongB x n = true := by rw [wrongB]; first | (rw [hd1.out]; rfl) | (rw [hd2.out, Bool.or_true]; rfl) | (rw [hr.out]; simp [hp])
              have hcF1 : checkF (k :: ks) = (zeroSpec, eWrong x.name) := by rw [hcF.out, checkS, hw]; rfl
              replace hcF1 := Lib.hid hcF1
              clear hw hcF hr
              go_wp2_with fail
              generalize w4.alloc (.cells #[.string x.name, .int .i64 x.kind, .int .i64 x.least, .int .i64 x.most, .int .i64 x.first, .int .i64 x.last, .int .i64 x.step] 26) = w5 at *
              obtain ⟨nm, hnm⟩ : ∃ z, z = x.name := ⟨_, rfl⟩
              obtain ⟨B5, hB5e⟩ : ∃ z, z = w4.heap.size := ⟨_, rfl⟩
              obtain ⟨rb, hrb⟩ : ∃ z, z = w.heap.size := ⟨_, rfl⟩
              obtain ⟨W, hW⟩ : ∃ z, z = w5 := ⟨_, rfl⟩
              have hn5 := (cells7 x hcells.out).1
              rw [← hB5e, ← hnm, ← hW] at hn5
              have hB5 : B5 < W.heap.size := World.block_lt_of_cell? _ _ hn5
              have hzr := hzr.out
              have hnl : nm.size ≤ 140737488355328 := by rw [hnm]; exact Nat.le_trans (names_short x hxm.out) (by omega)
              have hll : ¬ 9223372036854775807 < 34 + (lowB nm).size := by
                have h9 : (lowB nm).size = nm.size := by rw [lowB_eq]; show (List.map lowb nm.data.toList).toArray.size = nm.data.size; simp
                omega
              have hrl : rb < W.heap.size := by rw [hW, hrb]; exact hlt5.out
              have hth := hth
              rw [← hrb, ← hW] at hth
              rw [← hW, ← hrb] at hzr
              rw [← hnm] at hcF1
              have hbw : Below w.heap.size w W := by rw [hW]; exact hbb.out
              rw [← hB5e, ← hrb, ← hW]
              refine R2.wp_region_rely (l := [_, _, _, _, _, _, _]) (fun _ => True) (Below W.heap.size W) rcR (fun kG_ => ([fun v _ => v = .agg #[.string ⟨#[]⟩, .int .i64 0, .int .i64 0, .int .i64 0, .int .i64 0, .int .i64 0, .int .i64 0], fun v _ => v = .pointer (some ⟨B5, 0, none⟩), fun v _ => v = .string nm, fun v _ => v = .string (lowB nm), fun v _ => v = .string (eWrong nm), fun v w => ∃ w1 : World, w = w1.setCells rb 0 zeroSpec.cells ∧ Below W.heap.size W w1, fun v _ => v = .string (eWrong nm)] : List (Value → World → Prop)).getD kG_ (fun _ _ => True)) (eats []) (isIn [5]) (by kernel_rfl) (by kernel_rfl) (by kernel_rfl) trivial ((Below.refl _ _).drew) ?_ ?_ ?_ ?_
              · intro i kG_ u w w' hne hE hg hr
                rcases kG_ with _ | _ | _ | _ | _ | _ | _ | kG_
                · exact hg
                · exact hg
                · exact hg
                · exact hg
                · exact hg
                · replace hg : (fun (v : Value) (w : World) => ∃ w1 : World, w = w1.setCells rb 0 zeroSpec.cells ∧ Below W.heap.size W w1) u w := hg
                  show (fun (v : Value) (w : World) => ∃ w1 : World, w = w1.setCells rb 0 zeroSpec.cells ∧ Below W.heap.size W w1) u w'
                  dsimp only at hg ⊢
                  replace hE : exB _ _ i 5 = false := hE
                  replace hne : 5 ≠ i := hne
                  unfold rcR at hr
                  split at hr
                  all_goals first
                    | exact absurd rfl hne
                    | exact absurd (hE.symm.trans (by decide +kernel : exB _ _ _ _ = true)) (by decide)
                    | (subst hr; exact hg)
                    | (fail)
                · exact hg
                · trivial
              · intro i w w' hF hI hr
                unfold rcR at hr
                split at hr
                · exact hI.trans (hr.mono hI.size)
                · exact absurd hF (by decide)
                · subst hr; exact hI
              · refine ⟨?_, ?_, ?_, ?_, ?_, ?_, ?_, trivial⟩
                · refine VC.plain rfl fun a wx hf => ?_
                  have s4 := hf.old 4 (by first | rfl | kernel_rfl)
                  have q4 := evalQ s4
                  have hI := hf.start (by kernel_rfl)
                  exact gives_load_mid rfl s4 (range_below hI hzr) Tryd.underlying26 rfl infoSpec ⟨trivial, rfl, rfl⟩
                · refine VC.plain rfl fun a wx hf => ?_
                  have s5 := hf.old 5 (by first | rfl | kernel_rfl)
                  have q5 := evalQ s5
                  exact gives_value (by simp [go_sem, q5, hll, eWrong]) ⟨hf.c, rfl, rfl⟩
                · refine VC.plain rfl fun a wx hf => ?_
                  obtain ⟨v59, g59, s59⟩ := hf.got 1 (by kernel_rfl) (by intro j hj; simp [eats] at hj) rfl rfl
                  replace s59 := s59.trans (show v59 = .pointer (some ⟨B5, 0, none⟩) from g59)
                  clear g59
                  have q59 := evalQ s59
                  have hI := hf.start (by kernel_rfl)
                  exact gives_value (by simp [go_sem, q59, hI.cell (p := ⟨B5, 0, none⟩) hB5, hn5]) ⟨trivial, rfl, rfl⟩
                · refine VC.plain rfl fun a wx hf => ?_
                  obtain ⟨v60, g60, s60⟩ := hf.got 2 (by kernel_rfl) (by intro j hj; simp [eats] at hj) rfl rfl
                  replace s60 := s60.trans (show v60 = .string nm from g60)
                  clear g60
                  have q60 := evalQ s60
                  exact gives_call (f := 29) (args := #[.string nm]) (by simp [go_sem, q60]) ((refLower_any nm hnl wx).mono fun e w' ⟨he, hb⟩ => ⟨_, he, trivial, hb, rfl⟩)
                · refine VC.plain rfl fun a wx hf => ?_
                  obtain ⟨v61, g61, s61⟩ := hf.got 3 (by kernel_rfl) (by intro j hj; simp [eats] at hj) rfl rfl
                  replace s61 := s61.trans (show v61 = .string (lowB nm) from g61)
                  clear g61
                  have q61 := evalQ s61
                  exact gives_value (by simp [go_sem, q61, hll, eWrong]) ⟨hf.c, rfl, rfl⟩
                · refine VC.plain rfl fun a wx hf => ?_
                  have s2 := hf.old 2 (by first | rfl | kernel_rfl)
                  have q2 := evalQ s2
                  obtain ⟨v58, g58, s58⟩ := hf.got 0 (by kernel_rfl) (by intro j hj; simp [eats] at hj) rfl rfl
                  replace s58 := s58.trans (show v58 = .agg #[.string ⟨#[]⟩, .int .i64 0, .int .i64 0, .int .i64 0, .int .i64 0, .int .i64 0, .int .i64 0] from g58)
                  clear g58
                  have q58 := evalQ s58
                  have hI := hf.start (by kernel_rfl)
                  exact gives_store_mid rfl s2 s58 (there_below hI hrl hth) infoSpec (one7 _ _ _ _ _ _ _) ⟨trivial, trivial, wx, rfl, hI⟩
                · refine VC.plain rfl fun a wx hf => ?_
                  obtain ⟨v62, g62, s62⟩ := hf.got 4 (by kernel_rfl) (by intro j hj; simp [eats] at hj) rfl rfl
                  replace s62 := s62.trans (show v62 = .string (eWrong nm) from g62)
                  clear g62
                  have q62 := evalQ s62
                  exact gives_value (by simp [go_sem, q62]) ⟨trivial, rfl, rfl⟩
              · intro vs w9 hb hG
                obtain ⟨w8, hw8, hb8⟩ := (show ∃ w1 : World, w9 = w1.setCells rb 0 zeroSpec.cells ∧ Below W.heap.size W w1 from hG 5 (by decide) (by decide))
                have n6 : vs 6 = .string (eWrong nm) := hG 6 (by decide) (by decide)
                subst hw8
                have hth8 := there_below hb8 hrl hth
                have hr5 := World.rangeAt_setCells_same (w := w8) (b := rb) (o := 0) zeroSpec.cells hth8
                have hb9 : Below w.heap.size w (w8.setCells rb 0 zeroSpec.cells) := Below.setCells' (by rw [hrb]; exact Nat.le_refl _) _ _ _ (hbw.trans (hb8.mono hbw.size))
                clear hG
                simp only [putFrom, Act.put, List.setIfInBounds_toArray, List.set_cons_zero, List.set_cons_succ]
                go_wp2
                exact bodyPost_ret (results_cell2 (v := .agg zeroSpec.cells.toArray) rfl rfl (run_loadVar_mid (P := Tryd.prog) _ _ 0 26 _ _ hr5 Tryd.underlying26 rfl infoSpec)) rfl ⟨by rw [hcF1.out, ← n6]; rfl, hb9⟩
            · have hd1 := Lib.hid (decide_eq_false (Int.not_lt.2 hl))
              have hl1 : ¬ (n : Int) < x.least := by omega
              rcases Int.lt_or_le x.most (n : Int) with hg | hg
              · have hd2 := Lib.hid (decide_eq_true hg)
                have hw : wrongB x n = true := by rw [wrongB]; first | (rw [hd1.out]; rfl) | (rw [hd2.out, Bool.or_true]; rfl) | (rw [hr.out]; simp [hp])
                have hcF1 : checkF (k :: ks) = (zeroSpec, eWrong x.name) := by rw [hcF.out, checkS, hw]; rfl
                replace hcF1 := Lib.hid hcF1
                clear hw hcF hr
                go_wp2_with fail
                generalize w4.alloc (.cells #[.string x.name, .int .i64 x.kind, .int .i64 x.least, .int .i64 x.most, .int .i64 x.first, .int .i64 x.last, .int .i64 x.step] 26) = w5 at *
                obtain ⟨nm, hnm⟩ : ∃ z, z = x.name := ⟨_, rfl⟩
                obtain ⟨B5, hB5e⟩ : ∃ z, z = w4.heap.size := ⟨_, rfl⟩
                obtain ⟨rb, hrb⟩ : ∃ z, z = w.heap.size := ⟨_, rfl⟩
                obtain ⟨W, hW⟩ : ∃ z, z = w5 := ⟨_, rfl⟩
                have hn5 := (cells7 x hcells.out).1
                rw [← hB5e, ← hnm, ← hW] at hn5
                have hB5 : B5 < W.heap.size := World.block_lt_of_cell? _ _ hn5
                have hzr := hzr.out
                have hnl : nm.size ≤ 140737488355328 := by rw [hnm]; exact Nat.le_trans (names_short x hxm.out) (by omega)
                have hll : ¬ 9223372036854775807 < 34 + (lowB nm).size := by
                  have h9 : (lowB nm).size = nm.size := by rw [lowB_eq]; show (List.map lowb nm.data.toList).toArray.size = nm.data.size; simp
                  omega
                have hrl : rb < W.heap.size := by rw [hW, hrb]; exact hlt5.out
                have hth := hth
                rw [← hrb, ← hW] at hth
                rw [← hW, ← hrb] at hzr
                rw [← hnm] at hcF1
                have hbw : Below w.heap.size w W := by rw [hW]; exact hbb.out
                rw [← hB5e, ← hrb, ← hW]
                refine R2.wp_region_rely (l := [_, _, _, _, _, _, _]) (fun _ => True) (Below W.heap.size W) rcR (fun kG_ => ([fun v _ => v = .agg #[.string ⟨#[]⟩, .int .i64 0, .int .i64 0, .int .i64 0, .int .i64 0, .int .i64 0, .int .i64 0], fun v _ => v = .pointer (some ⟨B5, 0, none⟩), fun v _ => v = .string nm, fun v _ => v = .string (lowB nm), fun v _ => v = .string (eWrong nm), fun v w => ∃ w1 : World, w = w1.setCells rb 0 zeroSpec.cells ∧ Below W.heap.size W w1, fun v _ => v = .string (eWrong nm)] : List (Value → World → Prop)).getD kG_ (fun _ _ => True)) (eats []) (isIn [5]) (by kernel_rfl) (by kernel_rfl) (by kernel_rfl) trivial ((Below.refl _ _).drew) ?_ ?_ ?_ ?_
                · intro i kG_ u w w' hne hE hg hr
                  rcases kG_ with _ | _ | _ | _ | _ | _ | _ | kG_
                  · exact hg
                  · exact hg
                  · exact hg
                  · exact hg
                  · exact hg
                  · replace hg : (fun (v : Value) (w : World) => ∃ w1 : World, w = w1.setCells rb 0 zeroSpec.cells ∧ Below W.heap.size W w1) u w := hg
                    show (fun (v : Value) (w : World) => ∃ w1 : World, w = w1.setCells rb 0 zeroSpec.cells ∧ Below W.heap.size W w1) u w'
                    dsimp only at hg ⊢
                    replace hE : exB _ _ i 5 = false := hE
                    replace hne : 5 ≠ i := hne
                    unfold rcR at hr
                    split at hr
                    all_goals first
                      | exact absurd rfl hne
                      | exact absurd (hE.symm.trans (by decide +kernel : exB _ _ _ _ = true)) (by decide)
                      | (subst hr; exact hg)
                      | (fail)
                  · exact hg
                  · trivial
                · intro i w w' hF hI hr
                  unfold rcR at hr
                  split at hr
                  · exact hI.trans (hr.mono hI.size)
                  · exact absurd hF (by decide)
                  · subst hr; exact hI
                · refine ⟨?_, ?_, ?_, ?_, ?_, ?_, ?_, trivial⟩
                  · refine VC.plain rfl fun a wx hf => ?_
                    have s4 := hf.old 4 (by first | rfl | kernel_rfl)
                    have q4 := evalQ s4
                    have hI := hf.start (by kernel_rfl)
                    exact gives_load_mid rfl s4 (range_below hI hzr) Tryd.underlying26 rfl infoSpec ⟨trivial, rfl, rfl⟩
                  · refine VC.plain rfl fun a wx hf => ?_
                    have s5 := hf.old 5 (by first | rfl | kernel_rfl)
                    have q5 := evalQ s5
                    exact gives_value (by simp [go_sem, q5, hll, eWrong]) ⟨hf.c, rfl, rfl⟩
                  · refine VC.plain rfl fun a wx hf => ?_
                    obtain ⟨v59, g59, s59⟩ := hf.got 1 (by kernel_rfl) (by intro j hj; simp [eats] at hj) rfl rfl
                    replace s59 := s59.trans (show v59 = .pointer (some ⟨B5, 0, none⟩) from g59)
                    clear g59
                    have q59 := evalQ s59
                    have hI := hf.start (by kernel_rfl)
                    exact gives_value (by simp [go_sem, q59, hI.cell (p := ⟨B5, 0, none⟩) hB5, hn5]) ⟨trivial, rfl, rfl⟩
                  · refine VC.plain rfl fun a wx hf => ?_
                    obtain ⟨v60, g60, s60⟩ := hf.got 2 (by kernel_rfl) (by intro j hj; simp [eats] at hj) rfl rfl
                    replace s60 := s60.trans (show v60 = .string nm from g60)
                    clear g60
                    have q60 := evalQ s60
                    exact gives_call (f := 29) (args := #[.string nm]) (by simp [go_sem, q60]) ((refLower_any nm hnl wx).mono fun e w' ⟨he, hb⟩ => ⟨_, he, trivial, hb, rfl⟩)
                  · refine VC.plain rfl fun a wx hf => ?_
                    obtain ⟨v61, g61, s61⟩ := hf.got 3 (by kernel_rfl) (by intro j hj; simp [eats] at hj) rfl rfl
                    replace s61 := s61.trans (show v61 = .string (lowB nm) from g61)
                    clear g61
                    have q61 := evalQ s61
                    exact gives_value (by simp [go_sem, q61, hll, eWrong]) ⟨hf.c, rfl, rfl⟩
                  · refine VC.plain rfl fun a wx hf => ?_
                    have s2 := hf.old 2 (by first | rfl | kernel_rfl)
                    have q2 := evalQ s2
                    obtain ⟨v58, g58, s58⟩ := hf.got 0 (by kernel_rfl) (by intro j hj; simp [eats] at hj) rfl rfl
                    replace s58 := s58.trans (show v58 = .agg #[.string ⟨#[]⟩, .int .i64 0, .int .i64 0, .int .i64 0, .int .i64 0, .int .i64 0, .int .i64 0] from g58)
                    clear g58
                    have q58 := evalQ s58
                    have hI := hf.start (by kernel_rfl)
                    exact gives_store_mid rfl s2 s58 (there_below hI hrl hth) infoSpec (one7 _ _ _ _ _ _ _) ⟨trivial, trivial, wx, rfl, hI⟩
                  · refine VC.plain rfl fun a wx hf => ?_
                    obtain ⟨v62, g62, s62⟩ := hf.got 4 (by kernel_rfl) (by intro j hj; simp [eats] at hj) rfl rfl
                    replace s62 := s62.trans (show v62 = .string (eWrong nm) from g62)
                    clear g62
                    have q62 := evalQ s62
                    exact gives_value (by simp [go_sem, q62]) ⟨trivial, rfl, rfl⟩
                · intro vs w9 hb hG
                  obtain ⟨w8, hw8, hb8⟩ := (show ∃ w1 : World, w9 = w1.setCells rb 0 zeroSpec.cells ∧ Below W.heap.size W w1 from hG 5 (by decide) (by decide))
                  have n6 : vs 6 = .string (eWrong nm) := hG 6 (by decide) (by decide)
                  subst hw8
                  have hth8 := there_below hb8 hrl hth
                  have hr5 := World.rangeAt_setCells_same (w := w8) (b := rb) (o := 0) zeroSpec.cells hth8
                  have hb9 : Below w.heap.size w (w8.setCells rb 0 zeroSpec.cells) := Below.setCells' (by rw [hrb]; exact Nat.le_refl _) _ _ _ (hbw.trans (hb8.mono hbw.size))
                  clear hG
                  simp only [putFrom, Act.put, List.setIfInBounds_toArray, List.set_cons_zero, List.set_cons_succ]
                  go_wp2
                  exact bodyPost_ret (results_cell2 (v := .agg zeroSpec.cells.toArray) rfl rfl (run_loadVar_mid (P := Tryd.prog) _ _ 0 26 _ _ hr5 Tryd.underlying26 rfl infoSpec)) rfl ⟨by rw [hcF1.out, ← n6]; rfl, hb9⟩
              · have hd2 := Lib.hid (decide_eq_false (Int.not_lt.2 hg))
                have hg1 : ¬ x.most < (n : Int) := by omega
                have hw : wrongB x n = false := by rw [wrongB, hd1.out, hd2.out, hr.out]; first | rfl | (rw [hp]; rfl)
                have hcF1 : checkF (k :: ks) = (x, ByteArray.empty) := by rw [hcF.out, checkS, hw]; rfl
                replace hcF1 := Lib.hid hcF1
                clear hw hcF hr hcells hd1 hd2
                have hr5 := World.rangeAt_setCells_same (w := (w4.alloc (.cells #[.string x.name, .int .i64 x.kind, .int .i64 x.least, .int .i64 x.most, .int .i64 x.first, .int .i64 x.last, .int .i64 x.step] 26))) (b := w.heap.size) (o := 0) x.cells hth
                have hbs : Below w.heap.size w (((w4.alloc (.cells #[.string x.name, .int .i64 x.kind, .int .i64 x.least, .int .i64 x.most, .int .i64 x.first, .int .i64 x.last, .int .i64 x.step] 26))).setCells w.heap.size 0 x.cells) := Below.setCells' (Nat.le_refl _) _ _ _ hbb.out
                replace hr5 := Lib.hid hr5
                replace hbs := Lib.hid hbs
                replace hth := Lib.hid hth
                go_wp2_with (refine wpList_store_mid rfl 26 _ _ rfl w.heap.size 0 _ rfl rfl hth.out infoSpec (one7 _ _ _ _ _ _ _) ?_)
                exact bodyPost_ret (results_cell2 (v := .agg (x.cells).toArray) rfl rfl (run_loadVar_mid (P := Tryd.prog) _ _ 0 26 _ _ hr5.out Tryd.underlying26 rfl infoSpec)) rfl ⟨by (rw [hcF1.out]; rfl), hbs.out⟩
          · have hw : wrongB x n = true := by rw [wrongB]; first | (rw [hd1.out]; rfl) | (rw [hd2.out, Bool.or_true]; rfl) | (rw [hr.out]; simp [hp])
            have hcF1 : checkF (k :: ks) = (zeroSpec, eWrong x.name) := by rw [hcF.out, checkS, hw]; rfl
            replace hcF1 := Lib.hid hcF1
            clear hw hcF hr
            go_wp2_with fail
            generalize w4.alloc (.cells #[.string x.name, .int .i64 x.kind, .int .i64 x.least, .int .i64 x.most, .int .i64 x.first, .int .i64 x.last, .int .i64 x.step] 26) = w5 at *
            obtain ⟨nm, hnm⟩ : ∃ z, z = x.name := ⟨_, rfl⟩
            obtain ⟨B5, hB5e⟩ : ∃ z, z = w4.heap.size := ⟨_, rfl⟩
            obtain ⟨rb, hrb⟩ : ∃ z, z = w.heap.size := ⟨_, rfl⟩
            obtain ⟨W, hW⟩ : ∃ z, z = w5 := ⟨_, rfl⟩
            have hn5 := (cells7 x hcells.out).1
            rw [← hB5e, ← hnm, ← hW] at hn5
            have hB5 : B5 < W.heap.size := World.block_lt_of_cell? _ _ hn5
            have hzr := hzr.out
            have hnl : nm.size ≤ 140737488355328 := by rw [hnm]; exact Nat.le_trans (names_short x hxm.out) (by omega)
            have hll : ¬ 9223372036854775807 < 34 + (lowB nm).size := by
              have h9 : (lowB nm).size = nm.size := by rw [lowB_eq]; show (List.map lowb nm.data.toList).toArray.size = nm.data.size; simp
              omega
            have hrl : rb < W.heap.size := by rw [hW, hrb]; exact hlt5.out
            have hth := hth
            rw [← hrb, ← hW] at hth
            rw [← hW, ← hrb] at hzr
            rw [← hnm] at hcF1
            have hbw : Below w.heap.size w W := by rw [hW]; exact hbb.out
            rw [← hB5e, ← hrb, ← hW]
            refine R2.wp_region_rely (l := [_, _, _, _, _, _, _]) (fun _ => True) (Below W.heap.size W) rcR (fun kG_ => ([fun v _ => v = .agg #[.string ⟨#[]⟩, .int .i64 0, .int .i64 0, .int .i64 0, .int .i64 0, .int .i64 0, .int .i64 0], fun v _ => v = .pointer (some ⟨B5, 0, none⟩), fun v _ => v = .string nm, fun v _ => v = .string (lowB nm), fun v _ => v = .string (eWrong nm), fun v w => ∃ w1 : World, w = w1.setCells rb 0 zeroSpec.cells ∧ Below W.heap.size W w1, fun v _ => v = .string (eWrong nm)] : List (Value → World → Prop)).getD kG_ (fun _ _ => True)) (eats []) (isIn [5]) (by kernel_rfl) (by kernel_rfl) (by kernel_rfl) trivial ((Below.refl _ _).drew) ?_ ?_ ?_ ?_
            · intro i kG_ u w w' hne hE hg hr
              rcases kG_ with _ | _ | _ | _ | _ | _ | _ | kG_
              · exact hg
              · exact hg
              · exact hg
              · exact hg
              · exact hg
              · replace hg : (fun (v : Value) (w : World) => ∃ w1 : World, w = w1.setCells rb 0 zeroSpec.cells ∧ Below W.heap.size W w1) u w := hg
                show (fun (v : Value) (w : World) => ∃ w1 : World, w = w1.setCells rb 0 zeroSpec.cells ∧ Below W.heap.size W w1) u w'
                dsimp only at hg ⊢
                replace hE : exB _ _ i 5 = false := hE
                replace hne : 5 ≠ i := hne
                unfold rcR at hr
                split at hr
                all_goals first
                  | exact absurd rfl hne
                  | exact absurd (hE.symm.trans (by decide +kernel : exB _ _ _ _ = true)) (by decide)
                  | (subst hr; exact hg)
                  | (fail)
              · exact hg
              · trivial
            · intro i w w' hF hI hr
              unfold rcR at hr
              split at hr
              · exact hI.trans (hr.mono hI.size)
              · exact absurd hF (by decide)
              · subst hr; exact hI
            · refine ⟨?_, ?_, ?_, ?_, ?_, ?_, ?_, trivial⟩
              · refine VC.plain rfl fun a wx hf => ?_
                have s4 := hf.old 4 (by first | rfl | kernel_rfl)
                have q4 := evalQ s4
                have hI := hf.start (by kernel_rfl)
                exact gives_load_mid rfl s4 (range_below hI hzr) Tryd.underlying26 rfl infoSpec ⟨trivial, rfl, rfl⟩
              · refine VC.plain rfl fun a wx hf => ?_
                have s5 := hf.old 5 (by first | rfl | kernel_rfl)
                have q5 := evalQ s5
                exact gives_value (by simp [go_sem, q5, hll, eWrong]) ⟨hf.c, rfl, rfl⟩
              · refine VC.plain rfl fun a wx hf => ?_
                obtain ⟨v59, g59, s59⟩ := hf.got 1 (by kernel_rfl) (by intro j hj; simp [eats] at hj) rfl rfl
                replace s59 := s59.trans (show v59 = .pointer (some ⟨B5, 0, none⟩) from g59)
                clear g59
                have q59 := evalQ s59
                have hI := hf.start (by kernel_rfl)
                exact gives_value (by simp [go_sem, q59, hI.cell (p := ⟨B5, 0, none⟩) hB5, hn5]) ⟨trivial, rfl, rfl⟩
              · refine VC.plain rfl fun a wx hf => ?_
                obtain ⟨v60, g60, s60⟩ := hf.got 2 (by kernel_rfl) (by intro j hj; simp [eats] at hj) rfl rfl
                replace s60 := s60.trans (show v60 = .string nm from g60)
                clear g60
                have q60 := evalQ s60
                exact gives_call (f := 29) (args := #[.string nm]) (by simp [go_sem, q60]) ((refLower_any nm hnl wx).mono fun e w' ⟨he, hb⟩ => ⟨_, he, trivial, hb, rfl⟩)
              · refine VC.plain rfl fun a wx hf => ?_
                obtain ⟨v61, g61, s61⟩ := hf.got 3 (by kernel_rfl) (by intro j hj; simp [eats] at hj) rfl rfl
                replace s61 := s61.trans (show v61 = .string (lowB nm) from g61)
                clear g61
                have q61 := evalQ s61
                exact gives_value (by simp [go_sem, q61, hll, eWrong]) ⟨hf.c, rfl, rfl⟩
              · refine VC.plain rfl fun a wx hf => ?_
                have s2 := hf.old 2 (by first | rfl | kernel_rfl)
                have q2 := evalQ s2
                obtain ⟨v58, g58, s58⟩ := hf.got 0 (by kernel_rfl) (by intro j hj; simp [eats] at hj) rfl rfl
                replace s58 := s58.trans (show v58 = .agg #[.string ⟨#[]⟩, .int .i64 0, .int .i64 0, .int .i64 0, .int .i64 0, .int .i64 0, .int .i64 0] from g58)
                clear g58
                have q58 := evalQ s58
                have hI := hf.start (by kernel_rfl)
                exact gives_store_mid rfl s2 s58 (there_below hI hrl hth) infoSpec (one7 _ _ _ _ _ _ _) ⟨trivial, trivial, wx, rfl, hI⟩
              · refine VC.plain rfl fun a wx hf => ?_
                obtain ⟨v62, g62, s62⟩ := hf.got 4 (by kernel_rfl) (by intro j hj; simp [eats] at hj) rfl rfl
                replace s62 := s62.trans (show v62 = .string (eWrong nm) from g62)
                clear g62
                have q62 := evalQ s62
                exact gives_value (by simp [go_sem, q62]) ⟨trivial, rfl, rfl⟩
            · intro vs w9 hb hG
              obtain ⟨w8, hw8, hb8⟩ := (show ∃ w1 : World, w9 = w1.setCells rb 0 zeroSpec.cells ∧ Below W.heap.size W w1 from hG 5 (by decide) (by decide))
              have n6 : vs 6 = .string (eWrong nm) := hG 6 (by decide) (by decide)
              subst hw8
              have hth8 := there_below hb8 hrl hth
              have hr5 := World.rangeAt_setCells_same (w := w8) (b := rb) (o := 0) zeroSpec.cells hth8
              have hb9 : Below w.heap.size w (w8.setCells rb 0 zeroSpec.cells) := Below.setCells' (by rw [hrb]; exact Nat.le_refl _) _ _ _ (hbw.trans (hb8.mono hbw.size))
              clear hG
              simp only [putFrom, Act.put, List.setIfInBounds_toArray, List.set_cons_zero, List.set_cons_succ]
              go_wp2
              exact bodyPost_ret (results_cell2 (v := .agg zeroSpec.cells.toArray) rfl rfl (run_loadVar_mid (P := Tryd.prog) _ _ 0 26 _ _ hr5 Tryd.underlying26 rfl infoSpec)) rfl ⟨by rw [hcF1.out, ← n6]; rfl, hb9⟩
        | false =>
          have hp := True.intro
          rcases Int.lt_or_le (n : Int) x.least with hl | hl
          · have hd1 := Lib.hid (decide_eq_true hl)
            have hw : wrongB x n = true := by rw [wrongB]; first | (rw [hd1.out]; rfl) | (rw [hd2.out, Bool.or_true]; rfl) | (rw [hr.out]; simp [hp])
            have hcF1 : checkF (k :: ks) = (zeroSpec, eWrong x.name) := by rw [hcF.out, checkS, hw]; rfl
            replace hcF1 := Lib.hid hcF1
            clear hw hcF hr
            go_wp2_with fail
            generalize w4.alloc (.cells #[.string x.name, .int .i64 x.kind, .int .i64 x.least, .int .i64 x.most, .int .i64 x.first, .int .i64 x.last, .int .i64 x.step] 26) = w5 at *
            obtain ⟨nm, hnm⟩ : ∃ z, z = x.name := ⟨_, rfl⟩
            obtain ⟨B5, hB5e⟩ : ∃ z, z = w4.heap.size := ⟨_, rfl⟩
            obtain ⟨rb, hrb⟩ : ∃ z, z = w.heap.size := ⟨_, rfl⟩
            obtain ⟨W, hW⟩ : ∃ z, z = w5 := ⟨_, rfl⟩
            have hn5 := (cells7 x hcells.out).1
            rw [← hB5e, ← hnm, ← hW] at hn5
            have hB5 : B5 < W.heap.size := World.block_lt_of_cell? _ _ hn5
            have hzr := hzr.out
            have hnl : nm.size ≤ 140737488355328 := by rw [hnm]; exact Nat.le_trans (names_short x hxm.out) (by omega)
            have hll : ¬ 9223372036854775807 < 34 + (lowB nm).size := by
              have h9 : (lowB nm).size = nm.size := by rw [lowB_eq]; show (List.map lowb nm.data.toList).toArray.size = nm.data.size; simp
              omega
            have hrl : rb < W.heap.size := by rw [hW, hrb]; exact hlt5.out
            have hth := hth
            rw [← hrb, ← hW] at hth
            rw [← hW, ← hrb] at hzr
            rw [← hnm] at hcF1
            have hbw : Below w.heap.size w W := by rw [hW]; exact hbb.out
            rw [← hB5e, ← hrb, ← hW]
            refine R2.wp_region_rely (l := [_, _, _, _, _, _, _]) (fun _ => True) (Below W.heap.size W) rcR (fun kG_ => ([fun v _ => v = .agg #[.string ⟨#[]⟩, .int .i64 0, .int .i64 0, .int .i64 0, .int .i64 0, .int .i64 0, .int .i64 0], fun v _ => v = .pointer (some ⟨B5, 0, none⟩), fun v _ => v = .string nm, fun v _ => v = .string (lowB nm), fun v _ => v = .string (eWrong nm), fun v w => ∃ w1 : World, w = w1.setCells rb 0 zeroSpec.cells ∧ Below W.heap.size W w1, fun v _ => v = .string (eWrong nm)] : List (Value → World → Prop)).getD kG_ (fun _ _ => True)) (eats []) (isIn [5]) (by kernel_rfl) (by kernel_rfl) (by kernel_rfl) trivial ((Below.refl _ _).drew) ?_ ?_ ?_ ?_
            · intro i kG_ u w w' hne hE hg hr
              rcases kG_ with _ | _ | _ | _ | _ | _ | _ | kG_
              · exact hg
              · exact hg
              · exact hg
              · exact hg
              · exact hg
              · replace hg : (fun (v : Value) (w : World) => ∃ w1 : World, w = w1.setCells rb 0 zeroSpec.cells ∧ Below W.heap.size W w1) u w := hg
                show (fun (v : Value) (w : World) => ∃ w1 : World, w = w1.setCells rb 0 zeroSpec.cells ∧ Below W.heap.size W w1) u w'
                dsimp only at hg ⊢
                replace hE : exB _ _ i 5 = false := hE
                replace hne : 5 ≠ i := hne
                unfold rcR at hr
                split at hr
                all_goals first
                  | exact absurd rfl hne
                  | exact absurd (hE.symm.trans (by decide +kernel : exB _ _ _ _ = true)) (by decide)
                  | (subst hr; exact hg)
                  | (fail)
              · exact hg
              · trivial
            · intro i w w' hF hI hr
              unfold rcR at hr
              split at hr
              · exact hI.trans (hr.mono hI.size)
              · exact absurd hF (by decide)
              · subst hr; exact hI
            · refine ⟨?_, ?_, ?_, ?_, ?_, ?_, ?_, trivial⟩
              · refine VC.plain rfl fun a wx hf => ?_
                have s4 := hf.old 4 (by first | rfl | kernel_rfl)
                have q4 := evalQ s4
                have hI := hf.start (by kernel_rfl)
                exact gives_load_mid rfl s4 (range_below hI hzr) Tryd.underlying26 rfl infoSpec ⟨trivial, rfl, rfl⟩
              · refine VC.plain rfl fun a wx hf => ?_
                have s5 := hf.old 5 (by first | rfl | kernel_rfl)
                have q5 := evalQ s5
                exact gives_value (by simp [go_sem, q5, hll, eWrong]) ⟨hf.c, rfl, rfl⟩
              · refine VC.plain rfl fun a wx hf => ?_
                obtain ⟨v59, g59, s59⟩ := hf.got 1 (by kernel_rfl) (by intro j hj; simp [eats] at hj) rfl rfl
                replace s59 := s59.trans (show v59 = .pointer (some ⟨B5, 0, none⟩) from g59)
                clear g59
                have q59 := evalQ s59
                have hI := hf.start (by kernel_rfl)
                exact gives_value (by simp [go_sem, q59, hI.cell (p := ⟨B5, 0, none⟩) hB5, hn5]) ⟨trivial, rfl, rfl⟩
              · refine VC.plain rfl fun a wx hf => ?_
                obtain ⟨v60, g60, s60⟩ := hf.got 2 (by kernel_rfl) (by intro j hj; simp [eats] at hj) rfl rfl
                replace s60 := s60.trans (show v60 = .string nm from g60)
                clear g60
                have q60 := evalQ s60
                exact gives_call (f := 29) (args := #[.string nm]) (by simp [go_sem, q60]) ((refLower_any nm hnl wx).mono fun e w' ⟨he, hb⟩ => ⟨_, he, trivial, hb, rfl⟩)
              · refine VC.plain rfl fun a wx hf => ?_
                obtain ⟨v61, g61, s61⟩ := hf.got 3 (by kernel_rfl) (by intro j hj; simp [eats] at hj) rfl rfl
                replace s61 := s61.trans (show v61 = .string (lowB nm) from g61)
                clear g61
                have q61 := evalQ s61
                exact gives_value (by simp [go_sem, q61, hll, eWrong]) ⟨hf.c, rfl, rfl⟩
              · refine VC.plain rfl fun a wx hf => ?_
                have s2 := hf.old 2 (by first | rfl | kernel_rfl)
                have q2 := evalQ s2
                obtain ⟨v58, g58, s58⟩ := hf.got 0 (by kernel_rfl) (by intro j hj; simp [eats] at hj) rfl rfl
                replace s58 := s58.trans (show v58 = .agg #[.string ⟨#[]⟩, .int .i64 0, .int .i64 0, .int .i64 0, .int .i64 0, .int .i64 0, .int .i64 0] from g58)
                clear g58
                have q58 := evalQ s58
                have hI := hf.start (by kernel_rfl)
                exact gives_store_mid rfl s2 s58 (there_below hI hrl hth) infoSpec (one7 _ _ _ _ _ _ _) ⟨trivial, trivial, wx, rfl, hI⟩
              · refine VC.plain rfl fun a wx hf => ?_
                obtain ⟨v62, g62, s62⟩ := hf.got 4 (by kernel_rfl) (by intro j hj; simp [eats] at hj) rfl rfl
                replace s62 := s62.trans (show v62 = .string (eWrong nm) from g62)
                clear g62
                have q62 := evalQ s62
                exact gives_value (by simp [go_sem, q62]) ⟨trivial, rfl, rfl⟩
            · intro vs w9 hb hG
              obtain ⟨w8, hw8, hb8⟩ := (show ∃ w1 : World, w9 = w1.setCells rb 0 zeroSpec.cells ∧ Below W.heap.size W w1 from hG 5 (by decide) (by decide))
              have n6 : vs 6 = .string (eWrong nm) := hG 6 (by decide) (by decide)
              subst hw8
              have hth8 := there_below hb8 hrl hth
              have hr5 := World.rangeAt_setCells_same (w := w8) (b := rb) (o := 0) zeroSpec.cells hth8
              have hb9 : Below w.heap.size w (w8.setCells rb 0 zeroSpec.cells) := Below.setCells' (by rw [hrb]; exact Nat.le_refl _) _ _ _ (hbw.trans (hb8.mono hbw.size))
              clear hG
              simp only [putFrom, Act.put, List.setIfInBounds_toArray, List.set_cons_zero, List.set_cons_succ]
              go_wp2
              exact bodyPost_ret (results_cell2 (v := .agg zeroSpec.cells.toArray) rfl rfl (run_loadVar_mid (P := Tryd.prog) _ _ 0 26 _ _ hr5 Tryd.underlying26 rfl infoSpec)) rfl ⟨by rw [hcF1.out, ← n6]; rfl, hb9⟩
          · have hd1 := Lib.hid (decide_eq_false (Int.not_lt.2 hl))
            have hl1 : ¬ (n : Int) < x.least := by omega
            rcases Int.lt_or_le x.most (n : Int) with hg | hg
            · have hd2 := Lib.hid (decide_eq_true hg)
              have hw : wrongB x n = true := by rw [wrongB]; first | (rw [hd1.out]; rfl) | (rw [hd2.out, Bool.or_true]; rfl) | (rw [hr.out]; simp [hp])
              have hcF1 : checkF (k :: ks) = (zeroSpec, eWrong x.name) := by rw [hcF.out, checkS, hw]; rfl
              replace hcF1 := Lib.hid hcF1
              clear hw hcF hr
              go_wp2_with fail
              generalize w4.alloc (.cells #[.string x.name, .int .i64 x.kind, .int .i64 x.least, .int .i64 x.most, .int .i64 x.first, .int .i64 x.last, .int .i64 x.step] 26) = w5 at *
              obtain ⟨nm, hnm⟩ : ∃ z, z = x.name := ⟨_, rfl⟩
              obtain ⟨B5, hB5e⟩ : ∃ z, z = w4.heap.size := ⟨_, rfl⟩
              obtain ⟨rb, hrb⟩ : ∃ z, z = w.heap.size := ⟨_, rfl⟩
              obtain ⟨W, hW⟩ : ∃ z, z = w5 := ⟨_, rfl⟩
              have hn5 := (cells7 x hcells.out).1
              rw [← hB5e, ← hnm, ← hW] at hn5
              have hB5 : B5 < W.heap.size := World.block_lt_of_cell? _ _ hn5
              have hzr := hzr.out
              have hnl : nm.size ≤ 140737488355328 := by rw [hnm]; exact Nat.le_trans (names_short x hxm.out) (by omega)
              have hll : ¬ 9223372036854775807 < 34 + (lowB nm).size := by
                have h9 : (lowB nm).size = nm.size := by rw [lowB_eq]; show (List.map lowb nm.data.toList).toArray.size = nm.data.size; simp
                omega
              have hrl : rb < W.heap.size := by rw [hW, hrb]; exact hlt5.out
              have hth := hth
              rw [← hrb, ← hW] at hth
              rw [← hW, ← hrb] at hzr
              rw [← hnm] at hcF1
              have hbw : Below w.heap.size w W := by rw [hW]; exact hbb.out
              rw [← hB5e, ← hrb, ← hW]
              refine R2.wp_region_rely (l := [_, _, _, _, _, _, _]) (fun _ => True) (Below W.heap.size W) rcR (fun kG_ => ([fun v _ => v = .agg #[.string ⟨#[]⟩, .int .i64 0, .int .i64 0, .int .i64 0, .int .i64 0, .int .i64 0, .int .i64 0], fun v _ => v = .pointer (some ⟨B5, 0, none⟩), fun v _ => v = .string nm, fun v _ => v = .string (lowB nm), fun v _ => v = .string (eWrong nm), fun v w => ∃ w1 : World, w = w1.setCells rb 0 zeroSpec.cells ∧ Below W.heap.size W w1, fun v _ => v = .string (eWrong nm)] : List (Value → World → Prop)).getD kG_ (fun _ _ => True)) (eats []) (isIn [5]) (by kernel_rfl) (by kernel_rfl) (by kernel_rfl) trivial ((Below.refl _ _).drew) ?_ ?_ ?_ ?_
              · intro i kG_ u w w' hne hE hg hr
                rcases kG_ with _ | _ | _ | _ | _ | _ | _ | kG_
                · exact hg
                · exact hg
                · exact hg
                · exact hg
                · exact hg
                · replace hg : (fun (v : Value) (w : World) => ∃ w1 : World, w = w1.setCells rb 0 zeroSpec.cells ∧ Below W.heap.size W w1) u w := hg
                  show (fun (v : Value) (w : World) => ∃ w1 : World, w = w1.setCells rb 0 zeroSpec.cells ∧ Below W.heap.size W w1) u w'
                  dsimp only at hg ⊢
                  replace hE : exB _ _ i 5 = false := hE
                  replace hne : 5 ≠ i := hne
                  unfold rcR at hr
                  split at hr
                  all_goals first
                    | exact absurd rfl hne
                    | exact absurd (hE.symm.trans (by decide +kernel : exB _ _ _ _ = true)) (by decide)
                    | (subst hr; exact hg)
                    | (fail)
                · exact hg
                · trivial
              · intro i w w' hF hI hr
                unfold rcR at hr
                split at hr
                · exact hI.trans (hr.mono hI.size)
                · exact absurd hF (by decide)
                · subst hr; exact hI
              · refine ⟨?_, ?_, ?_, ?_, ?_, ?_, ?_, trivial⟩
                · refine VC.plain rfl fun a wx hf => ?_
                  have s4 := hf.old 4 (by first | rfl | kernel_rfl)
                  have q4 := evalQ s4
                  have hI := hf.start (by kernel_rfl)
                  exact gives_load_mid rfl s4 (range_below hI hzr) Tryd.underlying26 rfl infoSpec ⟨trivial, rfl, rfl⟩
                · refine VC.plain rfl fun a wx hf => ?_
                  have s5 := hf.old 5 (by first | rfl | kernel_rfl)
                  have q5 := evalQ s5
                  exact gives_value (by simp [go_sem, q5, hll, eWrong]) ⟨hf.c, rfl, rfl⟩
                · refine VC.plain rfl fun a wx hf => ?_
                  obtain ⟨v59, g59, s59⟩ := hf.got 1 (by kernel_rfl) (by intro j hj; simp [eats] at hj) rfl rfl
                  replace s59 := s59.trans (show v59 = .pointer (some ⟨B5, 0, none⟩) from g59)
                  clear g59
                  have q59 := evalQ s59
                  have hI := hf.start (by kernel_rfl)
                  exact gives_value (by simp [go_sem, q59, hI.cell (p := ⟨B5, 0, none⟩) hB5, hn5]) ⟨trivial, rfl, rfl⟩
                · refine VC.plain rfl fun a wx hf => ?_
                  obtain ⟨v60, g60, s60⟩ := hf.got 2 (by kernel_rfl) (by intro j hj; simp [eats] at hj) rfl rfl
                  replace s60 := s60.trans (show v60 = .string nm from g60)
                  clear g60
                  have q60 := evalQ s60
                  exact gives_call (f := 29) (args := #[.string nm]) (by simp [go_sem, q60]) ((refLower_any nm hnl wx).mono fun e w' ⟨he, hb⟩ => ⟨_, he, trivial, hb, rfl⟩)
                · refine VC.plain rfl fun a wx hf => ?_
                  obtain ⟨v61, g61, s61⟩ := hf.got 3 (by kernel_rfl) (by intro j hj; simp [eats] at hj) rfl rfl
                  replace s61 := s61.trans (show v61 = .string (lowB nm) from g61)
                  clear g61
                  have q61 := evalQ s61
                  exact gives_value (by simp [go_sem, q61, hll, eWrong]) ⟨hf.c, rfl, rfl⟩
                · refine VC.plain rfl fun a wx hf => ?_
                  have s2 := hf.old 2 (by first | rfl | kernel_rfl)
                  have q2 := evalQ s2
                  obtain ⟨v58, g58, s58⟩ := hf.got 0 (by kernel_rfl) (by intro j hj; simp [eats] at hj) rfl rfl
                  replace s58 := s58.trans (show v58 = .agg #[.string ⟨#[]⟩, .int .i64 0, .int .i64 0, .int .i64 0, .int .i64 0, .int .i64 0, .int .i64 0] from g58)
                  clear g58
                  have q58 := evalQ s58
                  have hI := hf.start (by kernel_rfl)
                  exact gives_store_mid rfl s2 s58 (there_below hI hrl hth) infoSpec (one7 _ _ _ _ _ _ _) ⟨trivial, trivial, wx, rfl, hI⟩
                · refine VC.plain rfl fun a wx hf => ?_
                  obtain ⟨v62, g62, s62⟩ := hf.got 4 (by kernel_rfl) (by intro j hj; simp [eats] at hj) rfl rfl
                  replace s62 := s62.trans (show v62 = .string (eWrong nm) from g62)
                  clear g62
                  have q62 := evalQ s62
                  exact gives_value (by simp [go_sem, q62]) ⟨trivial, rfl, rfl⟩
              · intro vs w9 hb hG
                obtain ⟨w8, hw8, hb8⟩ := (show ∃ w1 : World, w9 = w1.setCells rb 0 zeroSpec.cells ∧ Below W.heap.size W w1 from hG 5 (by decide) (by decide))
                have n6 : vs 6 = .string (eWrong nm) := hG 6 (by decide) (by decide)
                subst hw8
                have hth8 := there_below hb8 hrl hth
                have hr5 := World.rangeAt_setCells_same (w := w8) (b := rb) (o := 0) zeroSpec.cells hth8
                have hb9 : Below w.heap.size w (w8.setCells rb 0 zeroSpec.cells) := Below.setCells' (by rw [hrb]; exact Nat.le_refl _) _ _ _ (hbw.trans (hb8.mono hbw.size))
                clear hG
                simp only [putFrom, Act.put, List.setIfInBounds_toArray, List.set_cons_zero, List.set_cons_succ]
                go_wp2
                exact bodyPost_ret (results_cell2 (v := .agg zeroSpec.cells.toArray) rfl rfl (run_loadVar_mid (P := Tryd.prog) _ _ 0 26 _ _ hr5 Tryd.underlying26 rfl infoSpec)) rfl ⟨by rw [hcF1.out, ← n6]; rfl, hb9⟩
            · have hd2 := Lib.hid (decide_eq_false (Int.not_lt.2 hg))
              have hg1 : ¬ x.most < (n : Int) := by omega
              have hw : wrongB x n = false := by rw [wrongB, hd1.out, hd2.out, hr.out]; first | rfl | (rw [hp]; rfl)
              have hcF1 : checkF (k :: ks) = (x, ByteArray.empty) := by rw [hcF.out, checkS, hw]; rfl
              replace hcF1 := Lib.hid hcF1
              clear hw hcF hr hcells hd1 hd2
              have hr5 := World.rangeAt_setCells_same (w := (w4.alloc (.cells #[.string x.name, .int .i64 x.kind, .int .i64 x.least, .int .i64 x.most, .int .i64 x.first, .int .i64 x.last, .int .i64 x.step] 26))) (b := w.heap.size) (o := 0) x.cells hth
              have hbs : Below w.heap.size w (((w4.alloc (.cells #[.string x.name, .int .i64 x.kind, .int .i64 x.least, .int .i64 x.most, .int .i64 x.first, .int .i64 x.last, .int .i64 x.step] 26))).setCells w.heap.size 0 x.cells) := Below.setCells' (Nat.le_refl _) _ _ _ hbb.out
              replace hr5 := Lib.hid hr5
              replace hbs := Lib.hid hbs
              replace hth := Lib.hid hth
              go_wp2_with (refine wpList_store_mid rfl 26 _ _ rfl w.heap.size 0 _ rfl rfl hth.out infoSpec (one7 _ _ _ _ _ _ _) ?_)
              exact bodyPost_ret (results_cell2 (v := .agg (x.cells).toArray) rfl rfl (run_loadVar_mid (P := Tryd.prog) _ _ 0 26 _ _ hr5.out Tryd.underlying26 rfl infoSpec)) rfl ⟨by (rw [hcF1.out]; rfl), hbs.out⟩
end R2
end Go.Proofs.YtdhojdkeidilfaaDoor
