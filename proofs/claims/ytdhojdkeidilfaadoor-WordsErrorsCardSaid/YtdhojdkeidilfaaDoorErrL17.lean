/- WordsErrors: its walk. -/
import Derived.Test.YtdhojdkeidilfaaDoorErr17
import Derived.Lib.SmallJoins
namespace Go.Proofs.YtdhojdkeidilfaaDoor
open Go.RowKit

theorem line_at {s : ByteArray} (h : lineB s.data.toList = true) {i : Nat} (hi : i < s.size) : 32 ≤ (s[i]'hi).toNat ∧ (s[i]'hi).toNat ≤ 126 := by
  simp only [lineB, Bool.and_eq_true, decide_eq_true_eq, List.all_eq_true] at h
  exact h.1.2 _ (List.mem_of_getElem? (Lib.data_getElem? s i hi))
theorem line_len {s : ByteArray} (h : lineB s.data.toList = true) : s.size ≤ 100 := by
  simp only [lineB, Bool.and_eq_true, decide_eq_true_eq] at h
  have := h.1.1
  rw [Array.length_toList] at this
  exact this
theorem line_first {s : ByteArray} (h : lineB s.data.toList = true) (hi : 0 < s.size) : 65 ≤ (s[0]'hi).toNat ∧ (s[0]'hi).toNat ≤ 90 := by
  simp only [lineB, Bool.and_eq_true] at h
  have h1 := h.2
  have h2 := Lib.data_getElem? s 0 hi
  revert h1 h2
  cases s.data.toList with
  | nil => intro _ h2; simp at h2
  | cons b l =>
    intro h1 h2
    simp at h2
    rw [← h2]
    simpa using h1
set_option maxRecDepth 100000 in
set_option maxHeartbeats 6400000 in
theorem errorsL17_any {w : World} {a : Option Addr} {n ca : Nat} {keys : List ByteArray} (hx : Reads w 1 (.slice a n ca) n (keys.map Value.string)) (hs : ∀ k ∈ keys, k.size ≤ 9223372036854775807) (c : Int) (h0 : -9223372036854775808 ≤ c) (h1 : c ≤ 9223372036854775807)
    (htab : Lib.TabIs Tryd.prog w "internal/strconv.uint64pow10" .u64 Lib.pow10Tab) :
    Calls Tryd.prog 6 #[.slice a n ca, .int .i64 c] w fun e w' => e = .returned (.bool true) ∧ Below w.heap.size w w' := by
  have lx := hx.len.2
  simp only [List.length_map, Nat.mul_one] at lx
  by_cases hbig : 80 < n
  · clear lx hx
    have hbz : (80 : Int) < n := by omega
    go_enter Tryd.func6, Tryd.ntmps6
    go_wp2_with fail
    refine (alive17_any w).mono ?_
    rintro e w1 ⟨rfl, hb1⟩
    go_wp2
    go_ret
    exact ⟨rfl, hb1⟩
  · have hbz : ¬ (80 : Int) < n := by omega
    obtain ⟨gt, hgt⟩ : ∃ g, Tryd.prog.globalNamed "internal/strconv.uint64pow10" = some g := Option.isSome_iff_exists.1 (by kernel_rfl)
    go_enter Tryd.func6, Tryd.ntmps6
    go_wp2_with fail
    refine (alive17_any w).mono ?_
    rintro e w1 ⟨rfl, hb1⟩
    have hx1 := hx.below hb1
    go_wp2_with fail
    refine (check17_any hx1 hs (by omega)).mono ?_
    rintro e w2 ⟨he, hb2⟩
    obtain ⟨x, hxq⟩ : ∃ x, x = (checkF keys).1 := ⟨_, rfl⟩
    have hl1 := lineB_check keys
    obtain ⟨m, hm⟩ : ∃ m, m = (checkF keys).2 := ⟨_, rfl⟩
    rw [← hxq, ← hm] at he
    rw [← hm] at hl1
    replace he : e = .returned (.tuple #[.agg #[.string x.name, .int .i64 x.kind, .int .i64 x.least, .int .i64 x.most, .int .i64 x.first, .int .i64 x.last, .int .i64 x.step], .string m]) := he
    subst he
    have hb3 := (Below.refl w2.heap.size w2).alloc (Nat.le_refl _) (.cells #[.string x.name, .int .i64 x.kind, .int .i64 x.least, .int .i64 x.most, .int .i64 x.first, .int .i64 x.last, .int .i64 x.step] 26)
    have hb12 := hb1.trans (hb2.mono hb1.size)
    have hb13 := hb12.trans (hb3.mono hb12.size)
    have ht3 := Go.Joins.tab_stays hgt htab hb13 (Nat.le_refl _)
    clear hx hx1 hb12 hb1 hb2 hb3 hs hm hxq
    replace hl1 := Lib.hid hl1
    replace hb13 := Lib.hid hb13
    replace ht3 := Lib.hid ht3
    go_wp2_with fail
    generalize w2.alloc (.cells #[.string x.name, .int .i64 x.kind, .int .i64 x.least, .int .i64 x.most, .int .i64 x.first, .int .i64 x.last, .int .i64 x.step] 26) = w3 at *
    refine (error17_any c h0 h1 w3 ht3.out).mono ?_
    rintro e w4 ⟨s, rfl, ⟨-, hl2⟩, hb4⟩
    have hb14 := hb13.out.trans (hb4.mono hb13.out.size)
    have hb5 := (Below.refl w4.heap.size w4).alloc (Nat.le_refl _) (.cells #[.string m, .string s] 9)
    have hb15 := hb14.trans (hb5.mono hb14.size)
    have ht5 := Go.Joins.tab_stays hgt htab hb15 (Nat.le_refl _)
    have hrd : Reads (w4.alloc (.cells #[.string m, .string s] 9)) 1 (.slice (some ⟨w4.heap.size, 0, none⟩) 2 2) 2 ([m, s].map Value.string) := reads_new [m, s] 2 rfl w4
    have hls : ∀ (j : Nat) (hj : j < [m, s].length), lineB ([m, s][j]).data.toList = true := fun j hj => by
      rcases j with _ | _ | j
      · exact hl1.out
      · exact hl2
      · simp at hj; omega
    clear hb13 ht3 hb4 hb14 hb5 hl2
    replace hb15 := Lib.hid hb15
    replace ht5 := Lib.hid ht5
    replace hrd := Lib.hid hrd
    replace hls := Lib.hid hls
    go_wp2_with fail
    generalize w4.alloc (.cells #[.string m, .string s] 9) = w5 at *
    go_loop [25] (fun s25 => ∃ j : Nat, j ≤ 2 ∧ s25 = .int .i64 j) (fun s25 => 2 - (intOf s25).toNat)
    case atStart => exact ⟨0, Nat.zero_le _, rfl⟩
    case round =>
      obtain ⟨j, hj, rfl⟩ := hrel
      by_cases hlt : j < 2
      · obtain ⟨b3, o3, he3, hc3⟩ := hrd.out.at (j := j) (by simp; exact hlt)
        cases he3
        have dx := hc3 _ _ (map_str_get (xs := [m, s]) (j := j) hlt)
        have hl := hls.out j hlt
        obtain ⟨line, hline⟩ : ∃ z, z = [m, s][j] := ⟨_, rfl⟩
        rw [← hline] at dx hl
        rw [Nat.zero_add] at dx
        have hlen := line_len hl
        have hlti : (j : Int) < 2 := by omega
        replace hl := Lib.hid hl
        clear hline hc3
        go_wp2_with fail
        go_loop [9] (fun s9 => ∃ q : Nat, q ≤ line.size ∧ s9 = .int .i64 q) (fun s9 => line.size - (intOf s9).toNat)
        case atStart => exact ⟨0, Nat.zero_le _, rfl⟩
        case round =>
          obtain ⟨q, hq, rfl⟩ := hrel
          by_cases hql : q < line.size
          · obtain ⟨l1, l2⟩ := line_at hl.out hql
            obtain ⟨z, hz⟩ : ∃ z : UInt8, line[q]'hql = z := ⟨_, rfl⟩
            rw [hz] at l1 l2
            have e1 : ¬ (z.toNat : Int) < 32 := by omega
            have e2 : ¬ (126 : Int) < z.toNat := by omega
            go_wp2
            go_roundw
            case rel => exact ⟨q + 1, by omega, by go_num⟩
            case measure => simp [intOf]; omega
          · have hqz : ¬ (q : Int) < line.size := by omega
            have hlz : ¬ (100 : Int) < line.size := by omega
            by_cases hem : line = ⟨#[]⟩
            · have hme : (line.toList == []) = true := by rw [str_beqL]; simpa using hem
              replace hem := Lib.hid hem
              go_wp2
              go_roundw
              case rel => exact ⟨j + 1, by omega, by go_num⟩
              case measure => simp [intOf]; omega
            · have hme : (line.toList == []) = false := by rw [str_beqL]; simpa using hem
              have hpos : 0 < line.size := by
                rcases Nat.eq_zero_or_pos line.size with h | h
                · exact absurd (ByteArray.ext (Array.eq_empty_of_size_eq_zero h)) hem
                · exact h
              obtain ⟨l1, l2⟩ := line_first hl.out hpos
              obtain ⟨z, hz⟩ : ∃ z : UInt8, line[0]'hpos = z := ⟨_, rfl⟩
              rw [hz] at l1 l2
              have e1 : ¬ (z.toNat : Int) < 65 := by omega
              have e2 : ¬ (90 : Int) < z.toNat := by omega
              replace hem := Lib.hid hem
              go_wp2
              go_roundw
              case rel => exact ⟨j + 1, by omega, by go_num⟩
              case measure => simp [intOf]; omega
      · have hjt : j = 2 := by omega
        subst hjt
        go_wp2_with fail
        refine (error17_any c h0 h1 w5 ht5.out).mono ?_
        rintro e w6 ⟨s2, rfl, ⟨hne, -⟩, hb6⟩
        have hme : (s2.toList == []) = false := by rw [str_beqL]; simpa using hne
        have hb16 := hb15.out.trans (hb6.mono hb15.out.size)
        clear hne hb6
        go_wp2
        go_ret
        exact ⟨rfl, hb16⟩
end Go.Proofs.YtdhojdkeidilfaaDoor
