/- ValueParts: its plain law, and its walk. -/
import Derived.Test.YtapiinfnedhmoaaDoorAll03
import Derived.Test.YtapiinfnedhmoaaDoorAlive03
namespace Go.Proofs.YtapiinfnedhmoaaDoor
open Go.RowKit

theorem V.fine_le (v : V) : ∀ (d e : Int), 0 ≤ d → d ≤ e → v.fine d = (v.fine e && decide (v.dep ≤ d)) := by
  induction v using V.ind with
  | h v ih =>
  intro d e hd hde
  rw [V.fine_eq, V.fine_eq, V.dep_eq]
  cases hok : okV v with
  | false => simp
  | true =>
  have h0 := V.depL_nonneg v.list
  cases hl : listK v.kind with
  | false =>
    have hN : nothingV v = true := by simp only [okV, Bool.and_eq_true] at hok; exact hok.1.1.2
    have hz : v.list = [] := by
      simp only [nothingV, nothingB, Bool.and_eq_true, Bool.or_eq_true, decide_eq_true_eq] at hN
      rcases hN.2 with h1 | h1
      · rw [hl] at h1; cases h1
      · exact List.length_eq_zero_iff.1 h1
    rw [hz]
    simp [V.fineL, hd]
  | true =>
    by_cases h1 : 1 ≤ d
    · have key : ∀ l : List V, (∀ x ∈ l, x ∈ v.list) → V.fineL l (d - 1) = (V.fineL l (e - 1) && decide (V.depL l + 1 ≤ d)) := by
        intro l
        induction l with
        | nil => intro _; simp [V.fineL, V.depL]; omega
        | cons y l ihl =>
          intro hm
          have h2 := ihl (fun x hx => hm x (by simp [hx]))
          have h3 := ih y (hm y (by simp)) (d - 1) (e - 1) (by omega) (by omega)
          have hdl : decide (V.depL (y :: l) + 1 ≤ d) = (decide (y.dep ≤ d - 1) && decide (V.depL l + 1 ≤ d)) := by
            rw [Bool.eq_iff_iff]
            simp only [decide_eq_true_eq, Bool.and_eq_true]
            rw [V.depL]; omega
          rw [hdl]
          simp only [V.fineL, h2, h3]
          generalize decide (y.kind ≠ 14) = b1
          generalize y.fine (e - 1) = b2
          generalize decide (y.dep ≤ d - 1) = b3
          generalize V.fineL l (e - 1) = b4
          generalize decide (V.depL l + 1 ≤ d) = b5
          cases b1 <;> cases b2 <;> cases b3 <;> cases b4 <;> cases b5 <;> rfl
      rw [key v.list (fun x hx => hx)]
      have h2 : 1 ≤ e := by omega
      simp [h1, h2]
    · rw [decide_eq_false h1]
      simp
      intro _ _; omega
def partB (x : V) : Bool := (checkZ x == 0) && decide (x.kind ≠ 14)
theorem okV_list (l : List V) : okV (.mk 5 ⟨#[]⟩ 0 0 false l) = true := by
  have hb : bitsN 0 = 0 := by kernel_rfl
  have he : emptyS ⟨#[]⟩ = true := by kernel_rfl
  simp [okV, knownK, nothingV, nothingB, formB, V.kind, V.text, V.int, V.real, V.flag, V.list, listK, hb, he, ByteArray.size]
theorem countL_mem_le {l : List V} {x : V} (h : x ∈ l) : x.count ≤ V.countL l := V.count_mem h
/-- A list of some can be, just where its parts can be, and it is no more than so many, nor deeper than so deep. -/
theorem parts_law (l : List V) : (checkZ (.mk 5 ⟨#[]⟩ 0 0 false l) == 0) = (l.all partB && decide (V.countL l + 1 ≤ 1000) && decide (V.depL l < 8)) := by
  have hc : (V.mk 5 ⟨#[]⟩ 0 0 false l).count = V.countL l + 1 := by simp only [V.count]
  have hf : (V.mk 5 ⟨#[]⟩ 0 0 false l).fine 8 = V.fineL l 7 := by
    rw [V.fine_eq, okV_list]
    have : listK (V.kind (.mk 5 ⟨#[]⟩ 0 0 false l)) = true := by simp [V.kind, listK]
    rw [this]
    rfl
  have hcz : ∀ x : V, (checkZ x == 0) = (x.fine 8 && decide (x.count ≤ 1000)) := fun x => by
    unfold checkZ
    by_cases h : x.fine 8 = true ∧ x.count ≤ 1000
    · rw [if_pos h, h.1, decide_eq_true h.2]; rfl
    · rw [if_neg h]
      cases h1 : x.fine 8
      · rfl
      · have : ¬ x.count ≤ 1000 := fun h2 => h ⟨h1, h2⟩
        rw [decide_eq_false this]; rfl
  rw [hcz, hf, hc]
  by_cases hm : V.countL l + 1 ≤ 1000
  · rw [decide_eq_true hm, Bool.and_true, Bool.and_true]
    have key : ∀ l' : List V, (∀ x ∈ l', x ∈ l) → V.fineL l' 7 = (l'.all partB && decide (V.depL l' < 8)) := by
      intro l'
      induction l' with
      | nil => intro _; simp [V.fineL, V.depL]
      | cons y l' ih =>
        intro hsub
        have h1 := ih (fun x hx => hsub x (by simp [hx]))
        have h2 : y.count ≤ 1000 := by have := V.count_mem (hsub y (by simp)); omega
        have h3 := V.fine_le y 7 8 (by omega) (by omega)
        have h4 : partB y = (y.fine 8 && decide (y.kind ≠ 14)) := by rw [partB, hcz, decide_eq_true h2, Bool.and_true]
        have hdl : decide (V.depL (y :: l') < 8) = (decide (y.dep ≤ 7) && decide (V.depL l' < 8)) := by
          rw [Bool.eq_iff_iff]
          simp only [decide_eq_true_eq, Bool.and_eq_true]
          rw [V.depL]; omega
        rw [List.all_cons, hdl, h4]
        simp only [V.fineL, h1, h3]
        generalize decide (y.kind ≠ 14) = b1
        generalize y.fine 8 = b2
        generalize decide (y.dep ≤ 7) = b3
        generalize l'.all partB = b4
        generalize decide (V.depL l' < 8) = b5
        cases b1 <;> cases b2 <;> cases b3 <;> cases b4 <;> cases b5 <;> rfl
    exact key l (fun x hx => hx)
  · rw [decide_eq_false hm]; simp

theorem sized_list {l : List V} (hs : V.sizedL l) : (V.mk 5 ⟨#[]⟩ 0 0 false l).sized := (V.sized_eq _).2 ⟨by show (0 : Nat) ≤ _; omega, hs⟩
theorem check_list (l : List V) (a : Option Addr) (n cap : Nat) (w : World) (hn : n = l.length) (hv : RV w.cell? (cells6 5 ⟨#[]⟩ 0 0 false a n cap) (.mk 5 ⟨#[]⟩ 0 0 false l)) (hs : V.sizedL l) (hc : V.countL l + 1 ≤ 100000) :
    Calls Tryd.prog 11 #[.agg #[.int .i64 5, .string ⟨#[]⟩, .int .i64 0, .float .f64 0, .bool false, .slice a n cap]] w fun e w' => e = .returned (.int .i64 (checkZ (.mk 5 ⟨#[]⟩ 0 0 false l))) ∧ Below w.heap.size w w' := by
  subst hn
  exact check_any (.mk 5 ⟨#[]⟩ 0 0 false l) a cap w hv (sized_list hs) (by simp only [V.count]; omega)
theorem count_list (l : List V) (a : Option Addr) (n cap : Nat) (w : World) (hn : n = l.length) (hv : RV w.cell? (cells6 5 ⟨#[]⟩ 0 0 false a n cap) (.mk 5 ⟨#[]⟩ 0 0 false l)) (hc : V.countL l + 1 ≤ 100000) :
    Calls Tryd.prog 15 #[.agg #[.int .i64 5, .string ⟨#[]⟩, .int .i64 0, .float .f64 0, .bool false, .slice a n cap]] w fun e w' => e = .returned (.int .i64 ((V.countL l + 1 : Nat) : Int)) ∧ Below w.heap.size w w' := by
  subst hn
  have := count_any (.mk 5 ⟨#[]⟩ 0 0 false l) a cap w hv (by simp only [V.count]; omega)
  simp only [V.count] at this
  exact this
theorem depth_list (l : List V) (a : Option Addr) (n cap : Nat) (w : World) (hn : n = l.length) (hv : RV w.cell? (cells6 5 ⟨#[]⟩ 0 0 false a n cap) (.mk 5 ⟨#[]⟩ 0 0 false l)) (hc : V.countL l + 1 ≤ 100000) :
    Calls Tryd.prog 13 #[.agg #[.int .i64 5, .string ⟨#[]⟩, .int .i64 0, .float .f64 0, .bool false, .slice a n cap]] w fun e w' => e = .returned (.int .i64 (V.depL l + 1)) ∧ Below w.heap.size w w' := by
  subst hn
  have := depth_any (.mk 5 ⟨#[]⟩ 0 0 false l) a cap w hv (by simp only [V.count]; omega)
  rw [V.dep_eq] at this
  exact this

set_option maxRecDepth 100000 in
set_option maxHeartbeats 6400000 in
theorem parts03_any (l : List V) (a : Option Addr) (n cap : Nat) (w : World) (hv : RV w.cell? (cells6 5 ⟨#[]⟩ 0 0 false a n cap) (.mk 5 ⟨#[]⟩ 0 0 false l)) (hs : V.sizedL l) :
    Calls Tryd.prog 4 #[.slice a n cap] w fun e w' => e = .returned (.bool true) ∧ Below w.heap.size w w' := by
  have hnl : n = l.length := hv.len.2.2.2.2.2
  replace hnl := Lib.hid hnl
  replace hs := Lib.hid hs
  replace hv := Lib.hid hv
  by_cases h20 : 20 < n
  · go_enter Tryd.func4, Tryd.ntmps4
    go_wp2_with fail
    refine (alive03_any w).mono ?_
    rintro e w1 ⟨rfl, hb1⟩
    go_wp2
    go_ret
    exact ⟨rfl, hb1⟩
  go_enter Tryd.func4, Tryd.ntmps4
  go_wp2_with fail
  refine (alive03_any w).mono ?_
  rintro e w1 ⟨rfl, hb1⟩
  go_wp2_with fail
  go_loopw [3, 4, 5, 7, 16] (fun s3 s4 s5 _ s16 wr => ∃ j : Nat, j ≤ n ∧ s16 = .int .i64 j ∧ s3 = .int .i64 ((V.countL (l.take j) + 1 : Nat) : Int) ∧ s4 = .int .i64 (V.depL (l.take j)) ∧ s5 = .bool ((l.take j).all partB) ∧ V.countL (l.take j) ≤ 3000 * j ∧ Below w.heap.size w wr) (fun _ _ _ _ s16 _ => n - (intOf s16).toNat)
  case atStart => exact ⟨0, Nat.zero_le _, rfl, rfl, rfl, rfl, by simp [V.countL], hb1⟩
  case round =>
    obtain ⟨j, hj, rfl, rfl, rfl, rfl, hcj, hbel⟩ := hrel
    clear hb1
    by_cases hlt : j < n
    · obtain ⟨x, b, o, a', cap', hxj, hmem, rfl, hx, d0, d1, d2, d3, d4, d5⟩ := RV.elem' (v := .mk 5 ⟨#[]⟩ 0 0 false l) hv.out hlt
      have hxj : l[j]? = some x := hxj
      have hmem : x ∈ l := hmem
      have hbw := World.block_lt_of_cell? _ _ d0
      have up : ∀ (q : Nat) u, w.cell? ⟨b, q, none⟩ = some u → wr.cell? ⟨b, q, none⟩ = some u := fun q u h => by rw [hbel.cell (by exact hbw)]; exact h
      replace d0 := up _ _ d0
      replace d1 := up _ _ d1
      replace d2 := up _ _ d2
      replace d3 := up _ _ d3
      replace d4 := up _ _ d4
      replace d5 := up _ _ d5
      obtain ⟨W1, hW1⟩ : ∃ W1, W1 = wr.alloc (.cells #[.int .i64 x.kind, .string x.text, .int .i64 x.int, .float .f64 x.real, .bool x.flag, .slice a' x.list.length cap'] 25) := ⟨_, rfl⟩
      have hal : Below w.heap.size w W1 := by rw [hW1]; exact hbel.alloc hbel.size _
      have hB : ∀ q u, #[.int .i64 x.kind, .string x.text, .int .i64 x.int, .float .f64 x.real, .bool x.flag, .slice a' x.list.length cap'][q]? = some u → W1.cell? ⟨wr.heap.size, q, none⟩ = some u := fun q u h => by rw [hW1, World.cell?_alloc_new]; exact h
      have hx' := hx.mono (cell_below hal)
      have hxs := V.sizedL_mem hs.out x hmem
      have hts : l.take (j + 1) = l.take j ++ [x] := by
        obtain ⟨h1, h2⟩ := List.getElem?_eq_some_iff.1 hxj
        rw [List.take_succ_eq_append_getElem h1, h2]
      have hdj := V.depL_nonneg (l.take j)
      obtain ⟨m, hm⟩ : ∃ m, m = V.countL (l.take j) := ⟨_, rfl⟩
      obtain ⟨dd, hdd⟩ : ∃ m, m = V.depL (l.take j) := ⟨_, rfl⟩
      obtain ⟨fb, hfb⟩ : ∃ m, m = (l.take j).all partB := ⟨_, rfl⟩
      rw [← hm] at hcj ⊢
      rw [← hdd] at hdj ⊢
      rw [← hfb]
      have hddb : dd ≤ 60000 := by
        have key : ∀ l : List V, V.depL l ≤ V.countL l := by
          intro l
          induction l with
          | nil => simp [V.depL, V.countL]
          | cons y l ih => have := y.dep_count; simp only [V.depL, V.countL]; omega
        have := key (l.take j)
        rw [← hdd, ← hm] at this
        omega
      replace hm := Lib.hid hm
      replace hdd := Lib.hid hdd
      replace hfb := Lib.hid hfb
      replace hx' := Lib.hid hx'
      replace hxs := Lib.hid hxs
      replace hts := Lib.hid hts
      replace hal := Lib.hid hal
      replace hB := Lib.hid hB
      replace hW1 := Lib.hid hW1
      replace hxj := Lib.hid hxj
      clear up hx hbel hmem
      go_wp2_with fail
      rw [← hW1.out]
      clear d0 d1 d2 d3 d4 d5
      refine (small_any (v := x) hx'.out).mono ?_
      rintro e w2 ⟨q, rfl, hq, hb2⟩
      have hbw2 := hal.out.trans (hb2.mono hal.out.size)
      cases q with
      | false =>
        replace hq := Lib.hid hq
        go_wp2
        go_ret
        exact ⟨rfl, hbw2⟩
      | true =>
      have hxc := (hq rfl).1
      clear hq
      have hxd := x.dep_count
      have g0 := cell_below hb2 _ _ (hB.out 0 (.int .i64 x.kind) rfl)
      have g1 := cell_below hb2 _ _ (hB.out 1 (.string x.text) rfl)
      have g2 := cell_below hb2 _ _ (hB.out 2 (.int .i64 x.int) rfl)
      have g3 := cell_below hb2 _ _ (hB.out 3 (.float .f64 x.real) rfl)
      have g4 := cell_below hb2 _ _ (hB.out 4 (.bool x.flag) rfl)
      have g5 := cell_below hb2 _ _ (hB.out 5 (.slice a' x.list.length cap') rfl)
      go_wp2_with fail
      refine (count_any x a' cap' _ (hx'.out.mono (cell_below hb2)) (by omega)).mono ?_
      rintro e w3 ⟨rfl, hb3⟩
      have hb23 := hb2.trans (hb3.mono hb2.size)
      clear g0 g1 g2 g3 g4 g5
      have g0 := cell_below hb23 _ _ (hB.out 0 (.int .i64 x.kind) rfl)
      have g1 := cell_below hb23 _ _ (hB.out 1 (.string x.text) rfl)
      have g2 := cell_below hb23 _ _ (hB.out 2 (.int .i64 x.int) rfl)
      have g3 := cell_below hb23 _ _ (hB.out 3 (.float .f64 x.real) rfl)
      have g4 := cell_below hb23 _ _ (hB.out 4 (.bool x.flag) rfl)
      have g5 := cell_below hb23 _ _ (hB.out 5 (.slice a' x.list.length cap') rfl)
      go_wp2_with fail
      refine (depth_any x a' cap' _ (hx'.out.mono (cell_below hb23)) (by omega)).mono ?_
      rintro e w4 ⟨rfl, hb4⟩
      have hb24 := hb23.trans (hb4.mono hb23.size)
      have hbw4 := hal.out.trans (hb24.mono hal.out.size)
      clear g0 g1 g2 g3 g4 g5 hb2 hb3 hb4 hb23 hbw2
      have g0 := cell_below hb24 _ _ (hB.out 0 (.int .i64 x.kind) rfl)
      have g1 := cell_below hb24 _ _ (hB.out 1 (.string x.text) rfl)
      have g2 := cell_below hb24 _ _ (hB.out 2 (.int .i64 x.int) rfl)
      have g3 := cell_below hb24 _ _ (hB.out 3 (.float .f64 x.real) rfl)
      have g4 := cell_below hb24 _ _ (hB.out 4 (.bool x.flag) rfl)
      have g5 := cell_below hb24 _ _ (hB.out 5 (.slice a' x.list.length cap') rfl)
      have hz31 : checkZ x = 0 ∨ checkZ x = 31 := by unfold checkZ; split <;> simp
      have hcn : V.countL (l.take (j + 1)) = m + x.count := by rw [hts.out, V.countL_append, ← hm.out]; simp only [V.countL, Nat.add_zero]
      have hdn : V.depL (l.take (j + 1)) = max dd x.dep := by rw [hts.out, V.depL_snoc, ← hdd.out]
      have hfn : (l.take (j + 1)).all partB = (fb && partB x) := by rw [hts.out, List.all_append, ← hfb.out]; simp
      replace hcn := Lib.hid hcn
      replace hdn := Lib.hid hdn
      replace hfn := Lib.hid hfn
      clear hm hdd hfb hts hW1 hxj
      cases fb with
      | false =>
        clear hz31
        by_cases hmx : dd < x.dep
        all_goals
          go_wp2
          go_roundw
          case rel => exact ⟨j + 1, by omega, by go_num, by rw [hcn.out] <;> exact congrArg (Value.int .i64) (by omega), by rw [hdn.out] <;> exact congrArg (Value.int .i64) (by omega), by rw [hfn.out]; rfl, by rw [hcn.out]; omega, hbw4⟩
          case measure => simp [intOf]; omega
      | true =>
        obtain ⟨z, hz⟩ : ∃ z, z = checkZ x := ⟨_, rfl⟩
        rw [← hz] at hz31
        replace hz := Lib.hid hz
        replace hz31 := Lib.hid hz31
        by_cases hmx : dd < x.dep
        all_goals
          go_wp2_with fail
          refine (check_any x a' cap' _ (hx'.out.mono (cell_below hb24)) hxs.out (by omega)).mono ?_
          rintro e w5 ⟨rfl, hb5⟩
          rw [← hz.out]
          have hb25 := hb24.trans (hb5.mono hb24.size)
          have hbw5 := hal.out.trans (hb25.mono hal.out.size)
          clear g0 g1 g2 g3 g4 g5
          have g0 := cell_below hb25 _ _ (hB.out 0 (.int .i64 x.kind) rfl)
          have g1 := cell_below hb25 _ _ (hB.out 1 (.string x.text) rfl)
          have g2 := cell_below hb25 _ _ (hB.out 2 (.int .i64 x.int) rfl)
          have g3 := cell_below hb25 _ _ (hB.out 3 (.float .f64 x.real) rfl)
          have g4 := cell_below hb25 _ _ (hB.out 4 (.bool x.flag) rfl)
          have g5 := cell_below hb25 _ _ (hB.out 5 (.slice a' x.list.length cap') rfl)
          rcases hz31.out with h0 | h0
          all_goals
            have hpz : partB x = (decide (z = 0) && decide (x.kind ≠ 14)) := by rw [partB, ← hz.out]; rfl
            replace hpz := Lib.hid hpz
            subst h0
            go_wp2
            go_roundw
            case rel => exact ⟨j + 1, by omega, by go_num, by rw [hcn.out] <;> exact congrArg (Value.int .i64) (by omega), by rw [hdn.out] <;> exact congrArg (Value.int .i64) (by omega), by rw [hfn.out, hpz.out] <;> first | rfl | (simp <;> rfl), by rw [hcn.out]; omega, hbw5⟩
            case measure => simp [intOf]; omega
    · have hjn : j = l.length := by have := hnl.out; omega
      subst hjn
      rw [List.take_length]
      rw [List.take_length] at hcj
      have hlen := hnl.out
      have hd0 := V.depL_nonneg l
      have hddb : V.depL l ≤ 60000 := by
        have key : ∀ l : List V, V.depL l ≤ V.countL l := by
          intro l
          induction l with
          | nil => simp [V.depL, V.countL]
          | cons y l ih => have := y.dep_count; simp only [V.depL, V.countL]; omega
        have := key l
        omega
      have hlaw := parts_law l
      have hcm : V.countL l + 1 ≤ 100000 := by omega
      obtain ⟨z, hz⟩ : ∃ z, z = checkZ (.mk 5 ⟨#[]⟩ 0 0 false l) := ⟨_, rfl⟩
      have hz31 : z = 0 ∨ z = 31 := by rw [hz]; unfold checkZ; split <;> simp
      rw [← hz] at hlaw
      obtain ⟨m, hm⟩ : ∃ m, m = V.countL l := ⟨_, rfl⟩
      obtain ⟨dd, hdd⟩ : ∃ m, m = V.depL l := ⟨_, rfl⟩
      obtain ⟨fb, hfb⟩ : ∃ m, m = l.all partB := ⟨_, rfl⟩
      rw [← hm] at hcj hlaw ⊢
      rw [← hdd] at hd0 hddb hlaw ⊢
      rw [← hfb] at hlaw ⊢
      have hv1 := hv.out.mono (cell_below hbel)
      replace hm := Lib.hid hm
      replace hdd := Lib.hid hdd
      replace hfb := Lib.hid hfb
      replace hlaw := Lib.hid hlaw
      replace hz := Lib.hid hz
      replace hz31 := Lib.hid hz31
      replace hv1 := Lib.hid hv1
      replace hcm := Lib.hid hcm
      clear hlen
      go_wp2_with fail
      refine (list_any l a n cap wr (hv1.out) (by simp only [V.count]; have := hcm.out; omega)).mono ?_
      rintro e w2 ⟨a', cap', rfl, hv2, hb2, -⟩
      have hbw2 := hbel.trans (hb2.mono hbel.size)
      obtain ⟨W1, hW1⟩ : ∃ W1, W1 = w2.alloc (.cells #[.int .i64 5, .string ⟨#[]⟩, .int .i64 0, .float .f64 0, .bool false, .slice a' n cap'] 25) := ⟨_, rfl⟩
      have hal2 : Below w2.heap.size w2 W1 := by rw [hW1]; exact (Below.refl _ _).alloc (Nat.le_refl _) _
      have hbW1 := hbw2.trans (hal2.mono hbw2.size)
      have hB : ∀ q u, #[.int .i64 5, .string ⟨#[]⟩, .int .i64 0, .float .f64 0, .bool false, .slice a' n cap'][q]? = some u → W1.cell? ⟨w2.heap.size, q, none⟩ = some u := fun q u h => by rw [hW1, World.cell?_alloc_new]; exact h
      have hv3 : RV W1.cell? (cells6 5 ⟨#[]⟩ 0 0 false a' n cap') (.mk 5 ⟨#[]⟩ 0 0 false l) := hv2.mono (fun ad u h => cell_below hal2 _ _ (newer_all _ _ h))
      replace hv3 := Lib.hid hv3
      replace hB := Lib.hid hB
      replace hW1 := Lib.hid hW1
      replace hbW1 := Lib.hid hbW1
      clear hb2 hbw2 hal2 hv2 hbel
      go_wp2_with fail
      rw [← hW1.out]
      refine (count_list l a' n cap' W1 hnl.out hv3.out hcm.out).mono ?_
      rintro e w4 ⟨rfl, hb4⟩
      rw [← hm.out]
      have g0 := cell_below hb4 _ _ (hB.out 0 (.int .i64 5) rfl)
      have g1 := cell_below hb4 _ _ (hB.out 1 (.string ⟨#[]⟩) rfl)
      have g2 := cell_below hb4 _ _ (hB.out 2 (.int .i64 0) rfl)
      have g3 := cell_below hb4 _ _ (hB.out 3 (.float .f64 0) rfl)
      have g4 := cell_below hb4 _ _ (hB.out 4 (.bool false) rfl)
      have g5 := cell_below hb4 _ _ (hB.out 5 (.slice a' n cap') rfl)
      go_wp2_with fail
      refine (depth_list l a' n cap' _ hnl.out (hv3.out.mono (cell_below hb4)) hcm.out).mono ?_
      rintro e w5 ⟨rfl, hb5⟩
      rw [← hdd.out]
      have hb45 := hb4.trans (hb5.mono hb4.size)
      clear g0 g1 g2 g3 g4 g5
      have g0 := cell_below hb45 _ _ (hB.out 0 (.int .i64 5) rfl)
      have g1 := cell_below hb45 _ _ (hB.out 1 (.string ⟨#[]⟩) rfl)
      have g2 := cell_below hb45 _ _ (hB.out 2 (.int .i64 0) rfl)
      have g3 := cell_below hb45 _ _ (hB.out 3 (.float .f64 0) rfl)
      have g4 := cell_below hb45 _ _ (hB.out 4 (.bool false) rfl)
      have g5 := cell_below hb45 _ _ (hB.out 5 (.slice a' n cap') rfl)
      go_wp2_with fail
      refine (check_list l a' n cap' _ hnl.out (hv3.out.mono (cell_below hb45)) hs.out hcm.out).mono ?_
      rintro e w6 ⟨rfl, hb6⟩
      rw [← hz.out]
      have hb46 := hb45.trans (hb6.mono hb45.size)
      have hbw6 := hbW1.out.trans (hb46.mono hbW1.out.size)
      clear g0 g1 g2 g3 g4 g5
      have hl := hlaw.out
      rcases hz31.out with h0 | h0
      all_goals
        subst h0
        cases fb
        all_goals
          by_cases h1 : m + 1 ≤ 1000
          all_goals
            by_cases h2 : dd < 8
            all_goals
              first
                | (exfalso; revert hl; simp only [h1, h2, decide_true, decide_false]; decide)
                | (clear hl
                   go_wp2
                   go_ret
                   refine ⟨?_, hbw6⟩
                   refine congrArg (fun b => Ending.returned (Value.bool b)) ?_
                   first | rfl | (show _ = true; simp only [h1, h2, decide_true, decide_false]; rfl) | simp [h1, h2] | (simp; omega))
end Go.Proofs.YtapiinfnedhmoaaDoor
