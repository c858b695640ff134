/- WordsKeys: its walk. -/
import Derived.Test.YtdhojdkeidilfaaDoorKeys17
namespace Go.Proofs.YtdhojdkeidilfaaDoor
open Go.RowKit

set_option maxRecDepth 100000 in
set_option maxHeartbeats 3200000 in
theorem keysL17_any {w : World} {a : Option Addr} {n ca : Nat} {keys : List ByteArray} (hx : Reads w 1 (.slice a n ca) n (keys.map Value.string)) (hs : ∀ k ∈ keys, k.size ≤ 9223372036854775807) :
    Calls Tryd.prog 5 #[.slice a n ca] w fun e w' => e = .returned (.bool true) ∧ Below w.heap.size w w' := by
  have lx := hx.len.2
  simp only [List.length_map, Nat.mul_one] at lx
  by_cases hbig : 80 < n
  · clear lx hx
    have hbz : (80 : Int) < n := by omega
    go_enter Tryd.func5, Tryd.ntmps5
    go_wp2_with fail
    refine (alive17_any w).mono ?_
    rintro e w1 ⟨rfl, hb1⟩
    go_wp2
    go_ret
    exact ⟨rfl, hb1⟩
  · have hbz : ¬ (80 : Int) < n := by omega
    go_enter Tryd.func5, Tryd.ntmps5
    go_wp2_with fail
    refine (alive17_any w).mono ?_
    rintro e w1 ⟨rfl, hb1⟩
    have hx1 := hx.below hb1
    go_wp2_with fail
    refine (check17_any hx1 hs (by omega)).mono ?_
    rintro e w2 ⟨he, hb2⟩
    have hcc := check_cases keys
    obtain ⟨x, hxq⟩ : ∃ x, x = (checkF keys).1 := ⟨_, rfl⟩
    obtain ⟨m, hm⟩ : ∃ m, m = (checkF keys).2 := ⟨_, rfl⟩
    rw [← hxq, ← hm] at he
    replace he : e = .returned (.tuple #[.agg #[.string x.name, .int .i64 x.kind, .int .i64 x.least, .int .i64 x.most, .int .i64 x.first, .int .i64 x.last, .int .i64 x.step], .string m]) := he
    subst he
    have hb3 := (Below.refl w2.heap.size w2).alloc (Nat.le_refl _) (.cells #[.string x.name, .int .i64 x.kind, .int .i64 x.least, .int .i64 x.most, .int .i64 x.first, .int .i64 x.last, .int .i64 x.step] 26)
    have g7 := new7 x w2
    have hb12 := hb1.trans (hb2.mono hb1.size)
    have hb13 := hb12.trans (hb3.mono hb12.size)
    have hx3 := hx.below hb13
    clear hx hx1 hb12 hb1 hb2 hb3
    replace g7 := Lib.hid g7
    replace hcc := Lib.hid hcc
    replace hb13 := Lib.hid hb13
    replace hxq := Lib.hid hxq
    replace hm := Lib.hid hm
    go_wp2_with fail
    generalize w2.alloc (.cells #[.string x.name, .int .i64 x.kind, .int .i64 x.least, .int .i64 x.most, .int .i64 x.first, .int .i64 x.last, .int .i64 x.step] 26) = w3 at *
    refine (keys17_any hx3 hs (by omega)).mono ?_
    rintro e w4 ⟨v, rfl, f, s, t, hka, hr, hb4⟩
    obtain ⟨ak, ck, rfl⟩ := hr.shape
    obtain ⟨g0, g1, g2, g3, g4, g5, g6⟩ := cells7 x (range_below hb4 g7.out)
    have hx4 := hx3.below hb4
    have hb14 := hb13.out.trans (hb4.mono hb13.out.size)
    clear hx3 hb4 hb13 g7
    clear g1 g2 g3 g5 g6
    replace g0 := Lib.hid g0
    replace g4 := Lib.hid g4
    replace hb14 := Lib.hid hb14
    replace hka := Lib.hid hka
    replace hr := Lib.hid hr
    go_wp2_with fail
    go_loop [6, 23] (fun s6 s23 => ∃ j q : Nat, j ≤ t ∧ s23 = .int .i64 j ∧ s6 = .int .i64 q ∧ q ≤ 1000 ∧ (j < t → q ≤ f + s * j)) (fun _ s23 => t - (intOf s23).toNat)
    case atStart => exact ⟨0, 1, Nat.zero_le _, rfl, rfl, by omega, fun h => by have := hka.out.1 0 h; omega⟩
    case round =>
      obtain ⟨j, q, hj, rfl, rfl, hq1, hq⟩ := hrel
      by_cases hlt : j < t
      · obtain ⟨u1, u2, u3⟩ := hka.out.1 j hlt
        have hq := hq hlt
        obtain ⟨p, hp⟩ : ∃ p, p = f + s * j := ⟨_, rfl⟩
        have hp1 : f + s * (j + 1) = p + s := by rw [hp, Nat.mul_add]; omega
        rw [← hp] at u3 hq
        have hj80 : j ≤ 80 := by have := Nat.le_mul_of_pos_left j (show 0 < s by omega); omega
        obtain ⟨b3, o3, rfl, hc3⟩ := hr.out.at (j := j) (by simp [pickL_len]; exact hlt)
        have dx := hc3 _ _ (map_str_get (xs := pickL keys f s t) (j := j) (by rw [pickL_len]; exact hlt))
        have hkj : (pickL keys f s t)[j]'(by rw [pickL_len]; exact hlt) = keys[p] := by
          simp only [pickL, List.getElem_map, List.getElem_range, ← hp, List.getD_eq_getElem?_getD, List.getElem?_eq_getElem u3]; rfl
        rw [hkj] at dx
        have hlti : (j : Int) < t := by omega
        clear hc3 hkj
        replace hp := Lib.hid hp
        replace hp1 := Lib.hid hp1
        obtain ⟨key, hkey⟩ : ∃ z, z = keys[p] := ⟨_, rfl⟩
        rw [← hkey] at dx
        replace hkey := Lib.hid hkey
        go_wp2_with fail
        go_loop [6] (fun s6 => ∃ q : Nat, q ≤ p ∧ s6 = .int .i64 q) (fun s6 => p + 1 - (intOf s6).toNat)
        case atStart => exact ⟨q, hq, rfl⟩
        case round =>
          obtain ⟨r, hrp, rfl⟩ := hrel
          have hrn : r < keys.length := by omega
          have hrz : (r : Int) < n := by omega
          obtain ⟨b5, o5, rfl, hc5⟩ := hx4.at (j := r) (by simp; exact hrn)
          have dr := hc5 _ _ (map_str_get hrn)
          clear hc5
          by_cases hke : keys[r] = key
          · have hke2 := str_eq hke
            have hne : ¬ ((r : Int) = n) := by omega
            replace hke := Lib.hid hke
            go_wp2
            go_roundw
            case rel => exact ⟨j + 1, r + 1, by omega, by go_num, by go_num, by omega, fun _ => by rw [hp1.out]; omega⟩
            case measure => simp [intOf]; omega
          · have hke2 := str_ne hke
            have hrl : r < p := by
              rcases Nat.lt_or_ge r p with h | h
              · exact h
              · have : r = p := by omega
                subst this
                exact absurd hkey.out.symm hke
            replace hke := Lib.hid hke
            go_wp2
            go_roundw
            case rel => exact ⟨r + 1, by omega, by go_num⟩
            case measure => simp [intOf]; omega
      · have hjt : j = t := by omega
        subst hjt
        have g0' := g0.out
        have g4' := g4.out
        rcases hcc.out with ⟨h1, h2⟩ | ⟨y, hy, h1, h2, h3, h4⟩
        · rw [← hxq.out] at h1
          rw [← hm.out] at h2
          have hme : (m.toList == []) = false := by rw [str_beqL]; simpa using h2
          have ht0 : j = 0 := by
            rcases Nat.eq_zero_or_pos j with h | h
            · exact h
            · exact absurd (hm.out.trans (hka.out.2.1.1 h).1) h2
          subst ht0 h1
          clear h2 hcc hxq hm hka hr hq
          go_wp2
          go_ret
          exact ⟨rfl, hb14.out⟩
        · have hr := row_ok y hy
          have e1 := hxq.out
          have e2 := hm.out
          rw [h1] at e1 e2
          have hn1 : (x.name.toList == []) = false := by rw [str_beqL, e1]; simpa using hr.2
          have ht : 0 < j ↔ 0 < x.first := by
            rw [hka.out.2.1, h1, e1]
            simp
          subst e2
          clear hcc hxq hm hka h1 h2 h3 h4 hr hq e1
          by_cases hf : 0 < x.first
          · have hj0 : (0 : Int) < j := by have := ht.2 hf; omega
            clear ht
            go_wp2
            go_ret
            exact ⟨rfl, hb14.out⟩
          · have hj0 : ¬ (0 : Int) < j := by
              intro h
              exact hf (ht.1 (by omega))
            clear ht
            go_wp2
            go_ret
            exact ⟨rfl, hb14.out⟩
end Go.Proofs.YtdhojdkeidilfaaDoor
