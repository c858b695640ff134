/- nearhandref17.Find. -/
import Derived.Test.YtdhojdkeidilfaaDoorNames17
namespace Go.Proofs.YtdhojdkeidilfaaDoor
open Go.RowKit

theorem lowb_upb (b : UInt8) : lowb (upb b) = lowb b := by
  have key : ∀ b : Fin 256, lowb (upb (UInt8.ofNat b.val)) = lowb (UInt8.ofNat b.val) := by decide +kernel
  have := key ⟨b.toNat, b.toNat_lt⟩
  simpa using this
theorem lower_upper (s : ByteArray) : lowB (upB s) = lowB s := by
  rw [lowB_eq, lowB_eq, upB_eq]
  congr 2
  simp only [List.toList_toArray, List.map_map]
  exact List.map_congr_left fun b _ => lowb_upb b
set_option maxRecDepth 100000 in
set_option maxHeartbeats 6400000 in
theorem refFind_any (s : ByteArray) (hs : s.size ≤ 140737488355328) (w : World) : Calls Tryd.prog 18 #[.string s] w fun e w' =>
    e = .returned (.tuple #[.agg (found words17 (upB s)).1.cells.toArray, .bool (found words17 (upB s)).2]) ∧ Below w.heap.size w w' := by
  have hz := new7 zeroSpec w
  have ht := there_of (n := 7) hz (Blk.new _ _ _) rfl
  have hl0 : w.heap.size < (w.alloc (.cells #[.string ⟨#[]⟩, .int .i64 0, .int .i64 0, .int .i64 0, .int .i64 0, .int .i64 0, .int .i64 0] 26)).heap.size := by simp
  have hb0 := (Below.refl w.heap.size w).alloc (Nat.le_refl _) (.cells #[.string ⟨#[]⟩, .int .i64 0, .int .i64 0, .int .i64 0, .int .i64 0, .int .i64 0, .int .i64 0] 26)
  replace ht : (w.alloc (.cells #[.string ⟨#[]⟩, .int .i64 0, .int .i64 0, .int .i64 0, .int .i64 0, .int .i64 0, .int .i64 0] 26)).there w.heap.size 0 7 := ht
  clear hz
  go_enter Tryd.func18, Tryd.ntmps18
  go_wp2_with fail
  refine (R2.refAll_any _).mono ?_
  rintro e w2 ⟨v2, rfl, hown2, hb2⟩
  obtain ⟨b2, c2, rfl, hb2b, hb2l⟩ := hown2.form (by omega)
  have hT2 : w2.rangeAt b2 0 (words17.flatMap Spec.cells) := fun j u hj => by
    rw [Nat.zero_add]
    have hlen : (words17.flatMap Spec.cells).length = 39 * 7 := by simpa using hown2.1
    rw [hown2.cellAt j (by have := (List.getElem?_eq_some_iff.1 hj).1; omega)]; exact hj
  have ht2 := there_below hb2 hl0 ht
  have hl2 := Nat.lt_of_lt_of_le hl0 hb2.size
  have hb02 := hb0.trans (hb2.mono hb0.size)
  clear hown2 hb2b ht hl0 hb0 hb2
  obtain ⟨name, hname⟩ : ∃ x, x = upB s := ⟨_, rfl⟩
  replace hT2 := Lib.hid hT2
  replace ht2 := Lib.hid ht2
  replace hb02 := Lib.hid hb02
  replace hl2 := Lib.hid hl2
  replace hname := Lib.hid hname
  go_wp2_with fail
  go_loopw [8] (fun i wr => ∃ j : Nat, j ≤ 39 ∧ i = .int .i64 j ∧ noneAt words17 name j ∧ Below w2.heap.size w2 wr) (fun i _ => 39 - (intOf i).toNat)
  case atStart => exact ⟨0, Nat.zero_le _, rfl, fun j _ h => absurd h (by omega), Below.refl _ _⟩
  case round =>
    obtain ⟨j, hj, rfl, hno, hbel⟩ := hrel
    by_cases hlt : j < 39
    · have hlti : (j : Int) < 39 := by omega
      have hk : j < words17.length := by rw [len17]; omega
      obtain ⟨d0, d1, d2, d3, d4, d5, d6⟩ := row7 (range_below hbel hT2.out) hk
      have hxm := List.getElem_mem hk
      have hf0 : words17[j].name = name → found words17 name = (words17[j], true) := fun h => found_at hk h hno
      have hno1 : words17[j].name ≠ name → noneAt words17 name (j + 1) := fun h q hq hqj => by
        rcases Nat.lt_or_ge q j with h8 | h8
        · exact hno q hq h8
        · obtain rfl : q = j := by omega
          exact h
      obtain ⟨x, hxq⟩ : ∃ x, x = words17[j]'hk := ⟨_, rfl⟩
      rw [← hxq] at d0 d1 d2 d3 d4 d5 d6 hxm hf0 hno1
      have hnl : x.name.size ≤ 140737488355328 := Nat.le_trans (names_short x hxm) (by omega)
      have hrow5 := Lib.hid (new7 x wr)
      obtain ⟨n0, n1, n2, n3, n4, n5, n6⟩ := cells7 x hrow5.out
      have hs5 : (wr.alloc (.cells #[.string x.name, .int .i64 x.kind, .int .i64 x.least, .int .i64 x.most, .int .i64 x.first, .int .i64 x.last, .int .i64 x.step] 26)).heap.size = wr.heap.size + 1 := by simp
      have hz5 : wr.heap.size < (wr.alloc (.cells #[.string x.name, .int .i64 x.kind, .int .i64 x.least, .int .i64 x.most, .int .i64 x.first, .int .i64 x.last, .int .i64 x.step] 26)).heap.size := by simp
      have hb5 := hbel.trans ((Below.refl wr.heap.size wr).alloc (Nat.le_refl _) (.cells #[.string x.name, .int .i64 x.kind, .int .i64 x.least, .int .i64 x.most, .int .i64 x.first, .int .i64 x.last, .int .i64 x.step] 26) |>.mono hbel.size)
      have e1 : ((upB s).toList == x.name.toList) = decide (upB s = x.name) := str_beq _ _
      have e2 : ((lowB x.name).toList == (lowB s).toList) = decide (lowB x.name = lowB s) := str_beq _ _
      replace hb5 := Lib.hid hb5
      replace hno1 := Lib.hid hno1
      replace hf0 := Lib.hid hf0
      clear hxq hk hno hbel
      by_cases hx : upB s = x.name
      · have hg1 : ((lowB x.name).toList == (lowB s).toList) = true := by rw [e2, ← hx, lower_upper]; simp
        have hg2 : ((upB s).toList == x.name.toList) = true := by rw [e1]; simpa using hx
        have hf := hf0.out (by rw [hname.out, hx])
        replace hf := Lib.hid hf
        clear e1 e2 hx hno1 hf0
        replace hs5 := Lib.hid hs5
        go_wp2_with fail
        generalize wr.alloc (.cells #[.string x.name, .int .i64 x.kind, .int .i64 x.least, .int .i64 x.most, .int .i64 x.first, .int .i64 x.last, .int .i64 x.step] 26) = w5 at *
        refine wp_region_grow (by kernel_rfl) (by kernel_rfl) ?_
        repeat (go_big_quiet_step ((first | (go_at_call 29; (with_reducible exact quiet_grow (refLower_any x.name hnl _))) | (go_at_call 29; (with_reducible exact quiet_grow (refLower_any s hs _))) | (go_at_call 20; (with_reducible exact quiet_grow (refUpper_any s hs _))))))
        refine wpQuiet_nil ?_
        rintro _ ⟨xq, rfl⟩
        have hS := grow_below w5 xq
        obtain ⟨m0, m1, m2, m3, m4, m5, m6⟩ := cells7 x (range_below hS hrow5.out)
        have hb9 := hb5.out.trans (hS.mono hb5.out.size)
        have ht4 := there_below hb9 hl2.out ht2.out
        have hb04 := hb02.out.trans (hb9.mono hb02.out.size)
        clear hS n0 n1 n2 n3 n4 n5 n6 d0 d1 d2 d3 d4 d5 d6 hb9
        have hr5 := World.rangeAt_setCells_same (w := _) (b := w.heap.size) (o := 0) x.cells ht4
        have hb6 := Below.setCells' (b := w.heap.size) (B := w.heap.size) (Nat.le_refl _) x.cells 0 _ hb04
        replace hr5 := Lib.hid hr5
        replace hb6 := Lib.hid hb6
        replace ht4 := Lib.hid ht4
        replace hb04 := Lib.hid hb04
        go_wp2_with (refine wpList_store_mid rfl 26 _ _ rfl w.heap.size 0 _ rfl rfl ht4.out infoSpec (one7 _ _ _ _ _ _ _) ?_)
        exact bodyPost_ret (results_cell2 (v := .agg x.cells.toArray) rfl rfl (run_loadVar_mid (P := Tryd.prog) _ _ 0 26 _ _ hr5.out Tryd.underlying26 rfl infoSpec)) rfl ⟨by rw [← hname.out, hf.out]; rfl, hb6.out⟩
      · have hg2 : ((upB s).toList == x.name.toList) = false := by rw [e1]; simpa using hx
        have hno2 := hno1.out (fun h => hx (by rw [h, hname.out]))
        replace hno2 := Lib.hid hno2
        by_cases hy : lowB x.name = lowB s
        · have hg1 : ((lowB x.name).toList == (lowB s).toList) = true := by rw [e2]; simpa using hy
          clear e1 e2 hx hy hno1 hf0
          replace hs5 := Lib.hid hs5
          go_wp2_with fail
          generalize wr.alloc (.cells #[.string x.name, .int .i64 x.kind, .int .i64 x.least, .int .i64 x.most, .int .i64 x.first, .int .i64 x.last, .int .i64 x.step] 26) = w5 at *
          refine wp_region_grow (by kernel_rfl) (by kernel_rfl) ?_
          repeat (go_big_quiet_step ((first | (go_at_call 29; (with_reducible exact quiet_grow (refLower_any x.name hnl _))) | (go_at_call 29; (with_reducible exact quiet_grow (refLower_any s hs _))) | (go_at_call 20; (with_reducible exact quiet_grow (refUpper_any s hs _))))))
          refine wpQuiet_nil ?_
          rintro _ ⟨xq, rfl⟩
          have hS := grow_below w5 xq
          go_wp2_with fail
          go_roundw
          case rel => exact ⟨j + 1, by omega, by go_num, hno2.out, hb5.out.trans (hS.mono hb5.out.size)⟩
          case measure => simp [intOf]; omega
        · have hg1 : ((lowB x.name).toList == (lowB s).toList) = false := by rw [e2]; simpa using hy
          clear e1 e2 hx hy hno1 hf0
          replace hs5 := Lib.hid hs5
          go_wp2_with fail
          generalize wr.alloc (.cells #[.string x.name, .int .i64 x.kind, .int .i64 x.least, .int .i64 x.most, .int .i64 x.first, .int .i64 x.last, .int .i64 x.step] 26) = w5 at *
          refine wp_region_grow (by kernel_rfl) (by kernel_rfl) ?_
          repeat (go_big_quiet_step ((first | (go_at_call 29; (with_reducible exact quiet_grow (refLower_any x.name hnl _))) | (go_at_call 29; (with_reducible exact quiet_grow (refLower_any s hs _))) | (go_at_call 20; (with_reducible exact quiet_grow (refUpper_any s hs _))))))
          refine wpQuiet_nil ?_
          rintro _ ⟨xq, rfl⟩
          have hS := grow_below w5 xq
          go_wp2_with fail
          go_roundw
          case rel => exact ⟨j + 1, by omega, by go_num, hno2.out, hb5.out.trans (hS.mono hb5.out.size)⟩
          case measure => simp [intOf]; omega
    · obtain rfl : j = 39 := by omega
      have hlti : ¬ ((39 : Nat) : Int) < 39 := by omega
      have hf := found_none hno
      replace hf := Lib.hid hf
      have ht4 := there_below hbel hl2.out ht2.out
      have hb04 := hb02.out.trans (hbel.mono hb02.out.size)
      clear hno hbel hT2
      have hr5 := World.rangeAt_setCells_same (w := wr) (b := w.heap.size) (o := 0) zeroSpec.cells ht4
      have hb5 : Below w.heap.size w (wr.setCells w.heap.size 0 zeroSpec.cells) := Below.setCells' (Nat.le_refl _) _ _ _ hb04
      replace hr5 := Lib.hid hr5
      replace hb5 := Lib.hid hb5
      replace ht4 := Lib.hid ht4
      replace hb04 := Lib.hid hb04
      go_wp2_with (refine wpList_store_mid rfl 26 _ _ rfl w.heap.size 0 _ rfl rfl ht4.out infoSpec (one7 _ _ _ _ _ _ _) ?_)
      exact bodyPost_ret (results_cell2 (v := .agg zeroSpec.cells.toArray) rfl rfl (run_loadVar_mid (P := Tryd.prog) _ _ 0 26 _ _ hr5.out Tryd.underlying26 rfl infoSpec)) rfl ⟨by rw [← hname.out, hf.out]; rfl, hb5.out⟩
end Go.Proofs.YtdhojdkeidilfaaDoor
