/- WordsChecks: its walk. -/
import Derived.Test.YtdhojdkeidilfaaDoorRefK17
import Derived.Test.YtdhojdkeidilfaaDoorErrX17
import Derived.Test.YtdhojdkeidilfaaDoorStrs
namespace Go.Proofs.YtdhojdkeidilfaaDoor
open Go.RowKit

theorem keysAre_uni {keys : List ByteArray} {f s t f' s' t' : Nat} (h : KeysAre keys f s t) (h' : KeysAre keys f' s' t') : t = t' ∧ pickL keys f s t = pickL keys f' s' t' := by
  by_cases hc : (checkF keys).2 = ⟨#[]⟩ ∧ 0 < (checkF keys).1.first
  · obtain ⟨e1, e2, e3⟩ := h.2.2 hc.1 hc.2
    obtain ⟨g1, g2, g3⟩ := h'.2.2 hc.1 hc.2
    obtain rfl : f = f' := by omega
    obtain rfl : s = s' := by omega
    have ht : t = t' := by
      rcases Nat.lt_trichotomy t t' with h8 | h8 | h8
      · have := (e3 t).2 ((g3 t).1 h8); omega
      · exact h8
      · have := (g3 t').2 ((e3 t').1 h8); omega
    subst ht
    exact ⟨rfl, rfl⟩
  · have e1 : t = 0 := by
      rcases Nat.eq_zero_or_pos t with h8 | h8
      · exact h8
      · exact absurd (h.2.1.1 h8) hc
    have e2 : t' = 0 := by
      rcases Nat.eq_zero_or_pos t' with h8 | h8
      · exact h8
      · exact absurd (h'.2.1.1 h8) hc
    subst e1 e2
    exact ⟨rfl, rfl⟩
set_option maxRecDepth 100000 in
set_option maxHeartbeats 12800000 in
theorem checksL17_any {w : World} {a : Option Addr} {n ca : Nat} {keys : List ByteArray} (hx : Reads w 1 (.slice a n ca) n (keys.map Value.string)) (hs : ∀ k ∈ keys, k.size ≤ 140737488355328) (c : Int) (h0 : -9223372036854775808 ≤ c) (h1 : c ≤ 9223372036854775807)
    (htab : Lib.TabIs Tryd.prog w "internal/strconv.uint64pow10" .u64 Lib.pow10Tab) :
    Calls Tryd.prog 7 #[.slice a n ca, .int .i64 c] w fun e w' => e = .returned (.bool true) ∧ Below w.heap.size w w' := by
  have lx := hx.len.2
  simp only [List.length_map, Nat.mul_one] at lx
  by_cases hbig : 80 < n
  · clear lx hx
    have hbz : (80 : Int) < n := by omega
    go_enter Tryd.func7, Tryd.ntmps7
    go_wp2_with fail
    refine (alive17_any w).mono ?_
    rintro e w1 ⟨rfl, hb1⟩
    go_wp2
    go_ret
    exact ⟨rfl, hb1⟩
  · have hbz : ¬ (80 : Int) < n := by omega
    have hs9 : ∀ k ∈ keys, k.size ≤ 9223372036854775807 := fun k hk => Nat.le_trans (hs k hk) (by decide)
    obtain ⟨gt, hgt⟩ : ∃ g, Tryd.prog.globalNamed "internal/strconv.uint64pow10" = some g := Option.isSome_iff_exists.1 (by kernel_rfl)
    replace lx := Lib.hid lx
    replace hx := Lib.hid hx
    replace htab := Lib.hid htab
    replace hgt := Lib.hid hgt
    go_enter Tryd.func7, Tryd.ntmps7
    go_wp2_with fail
    refine (alive17_any w).mono ?_
    rintro e w1 ⟨rfl, hb1⟩
    go_wp2_with fail
    refine (check17_any (hx.out.below hb1) hs9 (by omega)).mono ?_
    rintro e w2 ⟨he, hb2⟩
    obtain ⟨x, hxq⟩ : ∃ x, x = (checkF keys).1 := ⟨_, rfl⟩
    obtain ⟨m, hm⟩ : ∃ m, m = (checkF keys).2 := ⟨_, rfl⟩
    rw [← hxq, ← hm] at he
    replace he : e = .returned (.tuple #[.agg #[.string x.name, .int .i64 x.kind, .int .i64 x.least, .int .i64 x.most, .int .i64 x.first, .int .i64 x.last, .int .i64 x.step], .string m]) := he
    subst he
    replace hxq := Lib.hid hxq
    replace hm := Lib.hid hm
    have hx2 := new7 x w2
    have hb23 := (Below.refl w2.heap.size w2).alloc (Nat.le_refl _) (.cells #[.string x.name, .int .i64 x.kind, .int .i64 x.least, .int .i64 x.most, .int .i64 x.first, .int .i64 x.last, .int .i64 x.step] 26)
    have hb12 := hb1.trans (hb2.mono hb1.size)
    have hb13 := hb12.trans (hb23.mono hb12.size)
    clear hb1 hb2 hb23 hb12
    replace hx2 := Lib.hid hx2
    replace hb13 := Lib.hid hb13
    go_wp2_with fail
    have hs3 : (w2.alloc (.cells #[.string x.name, .int .i64 x.kind, .int .i64 x.least, .int .i64 x.most, .int .i64 x.first, .int .i64 x.last, .int .i64 x.step] 26)).heap.size = w2.heap.size + 1 := by simp
    generalize w2.alloc (.cells #[.string x.name, .int .i64 x.kind, .int .i64 x.least, .int .i64 x.most, .int .i64 x.first, .int .i64 x.last, .int .i64 x.step] 26) = w3 at *
    refine (R2.refCheck_any (hx.out.below hb13.out) hs (by omega)).mono ?_
    rintro e w4 ⟨he, hb4⟩
    rw [← hxq.out, ← hm.out] at he
    replace he : e = .returned (.tuple #[.agg #[.string x.name, .int .i64 x.kind, .int .i64 x.least, .int .i64 x.most, .int .i64 x.first, .int .i64 x.last, .int .i64 x.step], .string m]) := he
    subst he
    have hb45 := (Below.refl w4.heap.size w4).alloc (Nat.le_refl _) (.cells #[.string x.name, .int .i64 x.kind, .int .i64 x.least, .int .i64 x.most, .int .i64 x.first, .int .i64 x.last, .int .i64 x.step] 26)
    obtain ⟨n0, n1, n2, n3, n4, n5, n6⟩ := cells7 x (new7 x w4)
    obtain ⟨m0, m1, m2, m3, m4, m5, m6⟩ := cells7 x (range_below hb45 (range_below hb4 hx2.out))
    have hb14 := hb13.out.trans (hb4.mono hb13.out.size)
    have hb15 := hb14.trans (hb45.mono hb14.size)
    clear hb4 hb45 hb14 hx2 hb13 hxq hm
    replace hb15 := Lib.hid hb15
    replace hs3 := Lib.hid hs3
    go_wp2_with fail
    generalize w4.alloc (.cells #[.string x.name, .int .i64 x.kind, .int .i64 x.least, .int .i64 x.most, .int .i64 x.first, .int .i64 x.last, .int .i64 x.step] 26) = w5 at *
    refine (keys17_any (hx.out.below hb15.out) hs9 (by omega)).mono ?_
    rintro e w6 ⟨v6, rfl, f, s, t, hk6, hr6, hb6⟩
    have hb16 := hb15.out.trans (hb6.mono hb15.out.size)
    clear m0 m1 m2 m3 m4 m5 m6 n0 n1 n2 n3 n4 n5 n6 hb15 hb6
    replace hb16 := Lib.hid hb16
    replace hr6 := Lib.hid hr6
    replace hk6 := Lib.hid hk6
    go_wp2_with fail
    refine (refKeys_any (hx.out.below hb16.out) hs (by omega)).mono ?_
    rintro e w7 ⟨v7, rfl, ⟨f7, s7, t7, hk7, hr7⟩, hb7⟩
    obtain ⟨e1, e2⟩ := keysAre_uni hk6.out hk7
    rw [← e2, ← e1] at hr7
    have hr67 := hr6.out.below hb7
    obtain ⟨a6, c6, rfl⟩ := hr67.shape
    obtain ⟨a7, c7, rfl⟩ := hr7.shape
    have ht9 : t ≤ 1000000000 := by
      rcases Nat.eq_zero_or_pos t with h8 | h8
      · omega
      · obtain ⟨q1, q2, q3⟩ := hk6.out.1 (t - 1) (by omega)
        have := Nat.le_mul_of_pos_left (t - 1) (show 0 < s by omega)
        have := lx.out
        omega
    have hb17 := hb16.out.trans (hb7.mono hb16.out.size)
    clear hb16 hb7 hr6 hk6 hk7 e1 e2
    replace hb17 := Lib.hid hb17
    replace hr67 := Lib.hid hr67
    replace hr7 := Lib.hid hr7
    go_wp2_with fail
    refine (same06_any hr67.out hr7.out ht9 ht9).mono ?_
    rintro e w8 ⟨rfl, k8, rfl⟩
    have hb18 := Below.drewN (m := k8) hb17.out
    have hdt : decide (pickL keys f s t = pickL keys f s t) = true := by simp
    rw [hdt]
    clear hb17 hr67 hr7 hdt
    replace hb18 := Lib.hid hb18
    go_wp2_with fail
    generalize w7.drewN k8 = w8 at *
    go_loopw [48] (fun i wr => ∃ j : Nat, j ≤ n ∧ i = .int .i64 j ∧ Below w.heap.size w wr) (fun i _ => n - (intOf i).toNat)
    case atStart => exact ⟨0, Nat.zero_le _, rfl, hb18.out⟩
    case round =>
      obtain ⟨j, hj, rfl, hbel⟩ := hrel
      clear hb18
      by_cases hlt : j < n
      · have hjn : (j : Int) < n := by omega
        have hjk : j < keys.length := by have := lx.out; omega
        obtain ⟨b3, o3, rfl, hc3⟩ := (hx.out.below hbel).at (j := j) (by simp; exact hjk)
        have dx := hc3 _ _ (map_str_get hjk)
        have hks := hs _ (List.getElem_mem hjk)
        obtain ⟨key, hkq⟩ : ∃ z, z = keys[j]'hjk := ⟨_, rfl⟩
        rw [← hkq] at dx hks
        have hks9 : key.size ≤ 9223372036854775807 := Nat.le_trans hks (by decide)
        clear hkq hc3 hjk
        replace hbel := Lib.hid hbel
        go_wp2_with fail
        refine (find17_any key hks9 wr).mono ?_
        rintro e u2 ⟨he, hv2⟩
        obtain ⟨y, hyq⟩ : ∃ y, y = (found words17 (upB key)).1 := ⟨_, rfl⟩
        obtain ⟨fl, hfq⟩ : ∃ y, y = (found words17 (upB key)).2 := ⟨_, rfl⟩
        rw [← hyq, ← hfq] at he
        replace he : e = .returned (.tuple #[.agg #[.string y.name, .int .i64 y.kind, .int .i64 y.least, .int .i64 y.most, .int .i64 y.first, .int .i64 y.last, .int .i64 y.step], .bool fl]) := he
        subst he
        replace hyq := Lib.hid hyq
        replace hfq := Lib.hid hfq
        have hy2 := new7 y u2
        have hv23 := (Below.refl u2.heap.size u2).alloc (Nat.le_refl _) (.cells #[.string y.name, .int .i64 y.kind, .int .i64 y.least, .int .i64 y.most, .int .i64 y.first, .int .i64 y.last, .int .i64 y.step] 26)
        have hv12 := hbel.out.trans (hv2.mono hbel.out.size)
        have hv13 := hv12.trans (hv23.mono hv12.size)
        clear hbel hv2 hv23 hv12 dx
        replace hy2 := Lib.hid hy2
        replace hv13 := Lib.hid hv13
        go_wp2_with fail
        have hs3 : (u2.alloc (.cells #[.string y.name, .int .i64 y.kind, .int .i64 y.least, .int .i64 y.most, .int .i64 y.first, .int .i64 y.last, .int .i64 y.step] 26)).heap.size = u2.heap.size + 1 := by simp
        generalize u2.alloc (.cells #[.string y.name, .int .i64 y.kind, .int .i64 y.least, .int .i64 y.most, .int .i64 y.first, .int .i64 y.last, .int .i64 y.step] 26) = u3 at *
        refine (refFind_any key hks u3).mono ?_
        rintro e u4 ⟨he, hv4⟩
        rw [← hyq.out, ← hfq.out] at he
        replace he : e = .returned (.tuple #[.agg #[.string y.name, .int .i64 y.kind, .int .i64 y.least, .int .i64 y.most, .int .i64 y.first, .int .i64 y.last, .int .i64 y.step], .bool fl]) := he
        subst he
        have hv45 := (Below.refl u4.heap.size u4).alloc (Nat.le_refl _) (.cells #[.string y.name, .int .i64 y.kind, .int .i64 y.least, .int .i64 y.most, .int .i64 y.first, .int .i64 y.last, .int .i64 y.step] 26)
        obtain ⟨n0, n1, n2, n3, n4, n5, n6⟩ := cells7 y (new7 y u4)
        obtain ⟨m0, m1, m2, m3, m4, m5, m6⟩ := cells7 y (range_below hv45 (range_below hv4 hy2.out))
        have hv14 := hv13.out.trans (hv4.mono hv13.out.size)
        have hv15 := hv14.trans (hv45.mono hv14.size)
        clear hv4 hv45 hv14 hy2 hv13 hyq hfq
        replace hv15 := Lib.hid hv15
        replace hs3 := Lib.hid hs3
        go_wp2_with fail
        generalize u4.alloc (.cells #[.string y.name, .int .i64 y.kind, .int .i64 y.least, .int .i64 y.most, .int .i64 y.first, .int .i64 y.last, .int .i64 y.step] 26) = u5 at *
        refine (upper17_any key hks9 u5).mono ?_
        rintro e u6 ⟨rfl, hv6⟩
        have hv16 := hv15.out.trans (hv6.mono hv15.out.size)
        clear m0 m1 m2 m3 m4 m5 m6 n0 n1 n2 n3 n4 n5 n6 hv15 hv6
        replace hv16 := Lib.hid hv16
        go_wp2_with fail
        refine (refUpper_any key hks u6).mono ?_
        rintro e u7 ⟨rfl, hv7⟩
        have hv17 := hv16.out.trans (hv7.mono hv16.out.size)
        clear hv16 hv7
        go_wp2_with fail
        go_roundw
        case rel => exact ⟨j + 1, by omega, by go_num, hv17⟩
        case measure => simp [intOf]; omega
      · have hjn : ¬ (j : Int) < n := by omega
        have ht3 := Go.Joins.tab_stays hgt.out htab.out hbel (Nat.le_refl _)
        go_wp2_with fail
        refine (errorX17_any c h0 h1 wr ht3).mono ?_
        rintro e u2 ⟨rfl, hv2⟩
        have hv3 := hbel.trans (hv2.mono hbel.size)
        clear ht3 hbel hv2
        replace hv3 := Lib.hid hv3
        go_wp2_with fail
        refine (refError_any c h0 h1 u2).mono ?_
        rintro e u3 ⟨rfl, hv4⟩
        have hv5 := hv3.out.trans (hv4.mono hv3.out.size)
        clear hv3 hv4
        go_wp2
        go_ret
        exact ⟨rfl, hv5⟩
end Go.Proofs.YtdhojdkeidilfaaDoor
