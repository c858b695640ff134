/- nearhandref17.Keys. -/
import Derived.Test.YtdhojdkeidilfaaDoorRefC17
namespace Go.Proofs.YtdhojdkeidilfaaDoor
open Go.RowKit

theorem keys_step {f s t j : Nat} {lz : Int} (hs : 1 ≤ s) (h : ∀ u : Nat, u < t ↔ f + s * u < j ∧ ((f + s * u : Nat) : Int) ≤ lz) (hf : f ≤ j) (hl : (j : Int) ≤ lz) (hm : (j - f) % s = 0) :
    j = f + s * t ∧ ∀ u : Nat, u < t + 1 ↔ f + s * u < j + 1 ∧ ((f + s * u : Nat) : Int) ≤ lz := by
  obtain ⟨u0, hu0⟩ : ∃ u0, j = f + s * u0 := ⟨(j - f) / s, by have := Nat.div_add_mod (j - f) s; omega⟩
  have h1 : ¬ u0 < t := fun hh => by have := ((h u0).1 hh).1; omega
  have h2 : ¬ t < u0 := fun hh => by
    have h3 : s * t < s * u0 := Nat.mul_lt_mul_of_pos_left hh (by omega)
    have := (h t).2 ⟨by omega, by omega⟩
    omega
  obtain rfl : t = u0 := by omega
  refine ⟨hu0, fun u => ⟨fun hh => ?_, fun hh => ?_⟩⟩
  · rcases Nat.lt_or_ge u t with h4 | h4
    · have := (h u).1 h4; exact ⟨by omega, this.2⟩
    · obtain rfl : u = t := by omega
      exact ⟨by omega, by omega⟩
  · rcases Nat.lt_or_ge u (t + 1) with h4 | h4
    · exact h4
    · have h3 : s * (t + 1) ≤ s * u := Nat.mul_le_mul_left s h4
      rw [Nat.mul_add] at h3
      omega
theorem keys_skip {f s t j : Nat} {lz : Int} (h : ∀ u : Nat, u < t ↔ f + s * u < j ∧ ((f + s * u : Nat) : Int) ≤ lz) (hno : ¬ (f ≤ j ∧ (j : Int) ≤ lz ∧ (j - f) % s = 0)) :
    ∀ u : Nat, u < t ↔ f + s * u < j + 1 ∧ ((f + s * u : Nat) : Int) ≤ lz := fun u => by
  rw [h u]
  refine ⟨fun hh => ⟨by omega, hh.2⟩, fun hh => ⟨?_, hh.2⟩⟩
  rcases Nat.lt_or_ge (f + s * u) j with h4 | h4
  · exact h4
  · have e : j = f + s * u := by omega
    exact absurd ⟨by omega, by omega, by rw [e, Nat.add_sub_cancel_left, Nat.mul_mod_right]⟩ hno
set_option maxRecDepth 100000 in
set_option maxHeartbeats 12800000 in
theorem refKeys_any {w : World} {a : Option Addr} {n ca : Nat} {keys : List ByteArray} (hx : Reads w 1 (.slice a n ca) n (keys.map Value.string)) (hs : ∀ k ∈ keys, k.size ≤ 140737488355328) (hn : n ≤ 1000000) :
    Calls Tryd.prog 16 #[.slice a n ca] w fun e w' => ∃ v, e = .returned v ∧ (∃ f s t, KeysAre keys f s t ∧ Reads w' 1 v t ((pickL keys f s t).map Value.string)) ∧ Below w.heap.size w w' := by
  have lx := hx.len.2
  simp only [List.length_map, Nat.mul_one] at lx
  have hown0 := owns_empty w 9 1
  have hbel0 := (Below.refl w.heap.size w).alloc (Nat.le_refl _) (.cells #[] 9)
  have hx0 := hx.below hbel0
  have hs1 : (w.alloc (.cells #[] 9)).heap.size = w.heap.size + 1 := by simp
  replace lx := Lib.hid lx
  go_enter Tryd.func16, Tryd.ntmps16
  go_wp2_with fail
  refine (R2.refCheck_any hx0 hs hn).mono ?_
  rintro e w2 ⟨he, hb2⟩
  have hcc := check_cases keys
  obtain ⟨x, hxq⟩ : ∃ x, x = (checkF keys).1 := ⟨_, rfl⟩
  obtain ⟨m, hm⟩ : ∃ m, m = (checkF keys).2 := ⟨_, rfl⟩
  rw [← hxq, ← hm] at he
  replace he : e = .returned (.tuple #[.agg #[.string x.name, .int .i64 x.kind, .int .i64 x.least, .int .i64 x.most, .int .i64 x.first, .int .i64 x.last, .int .i64 x.step], .string m]) := he
  subst he
  have hb23 := (Below.refl w2.heap.size w2).alloc (Nat.le_refl _) (.cells #[.string x.name, .int .i64 x.kind, .int .i64 x.least, .int .i64 x.most, .int .i64 x.first, .int .i64 x.last, .int .i64 x.step] 26)
  have hrow3 := new7 x w2
  have hown2 := owns_below hown0 hb2 (Nat.le_refl _)
  have hown3 := owns_below hown2 hb23 (Nat.le_refl _)
  have hbel2 := hbel0.trans (hb2.mono hbel0.size)
  have hb3 := hbel2.trans (hb23.mono hbel2.size)
  have hb4 : w.heap.size ≠ w2.heap.size := by have := hb2.size; rw [hs1] at this; omega
  obtain ⟨e0, e1, e2, e3, e4, e5, e6⟩ := cells7 x hrow3
  clear hown0 hbel0 hx0 hs1 hb2 hb23 hown2 hbel2 hs
  replace hx := Lib.hid hx
  replace hown3 := Lib.hid hown3
  replace hb3 := Lib.hid hb3
  replace hb4 := Lib.hid hb4
  replace hrow3 := Lib.hid hrow3
  rcases hcc with ⟨h1, h2⟩ | ⟨y, hy, h1, h2, h3, h4⟩
  · rw [← hm] at h2
    have hme : (m.toList == []) = false := by rw [str_beqL]; simpa using h2
    have hka : KeysAre keys 0 0 0 := ⟨fun u hu => absurd hu (by omega), ⟨fun h => absurd h (by omega), fun h => absurd (hm.trans h.1) h2⟩, fun h _ => absurd (hm.trans h) h2⟩
    have hrd := Reads.of_owns hown3.out
    replace hka := Lib.hid hka
    replace hrd := Lib.hid hrd
    clear h1 h2 hxq hm hown3
    go_wp2_with fail
    go_ret
    exact ⟨_, rfl, ⟨0, 0, 0, hka.out, hrd.out⟩, hb3.out⟩
  · have hr := row_ok y hy
    rw [h1] at hxq hm
    obtain rfl : x = y := hxq
    have hm0 : m = ⟨#[]⟩ := hm
    subst hm0
    obtain ⟨nm, kd, le, mo, fi, la, st⟩ := x
    simp only at hr h2 h3 e0 e1 e2 e3 e4 e5 e6
    rcases hr.1 with h0 | ⟨k1, k2, k3, k4, k5, k6, k7, k8⟩
    · subst h0
      have hka : KeysAre keys 0 0 0 := ⟨fun u hu => absurd hu (by omega), ⟨fun h => absurd h (by omega), fun h => absurd h.2 (by rw [h1]; simp)⟩, fun _ h => absurd h (by rw [h1]; simp)⟩
      have hrd := Reads.of_owns hown3.out
      replace hka := Lib.hid hka
      replace hrd := Lib.hid hrd
      clear hr h1 h2 h3 h4 hy hm hown3 hrow3
      go_wp2_with fail
      generalize w2.alloc (.cells #[.string nm, .int .i64 kd, .int .i64 le, .int .i64 mo, .int .i64 0, .int .i64 la, .int .i64 st] 26) = w3 at *
      go_loop [3, 19] (fun v i => v = Value.slice (some ⟨w.heap.size, 0, none⟩) 0 0 ∧ ∃ j : Nat, j ≤ n ∧ i = .int .i64 j) (fun _ i => n - (intOf i).toNat)
      case atStart => exact ⟨rfl, 0, Nat.zero_le _, rfl⟩
      case round =>
        obtain ⟨rfl, j, hj, rfl⟩ := hrel
        by_cases hlt : j < n
        · have hjn : (j : Int) < n := by omega
          have hjk : j < keys.length := by have := lx.out; omega
          obtain ⟨b3, o3, rfl, hc3⟩ := (hx.out.below hb3.out).at (j := j) (by simp; exact hjk)
          have dx := hc3 _ _ (map_str_get hjk)
          clear hc3
          go_wp2_with fail
          go_roundw
          case rel => exact ⟨rfl, j + 1, by omega, by go_num⟩
          case measure => simp [intOf]; omega
        · have hjn : ¬ (j : Int) < n := by omega
          go_wp2_with fail
          go_ret
          exact ⟨_, rfl, ⟨0, 0, 0, hka.out, hrd.out⟩, hb3.out⟩
    · obtain ⟨f, rfl⟩ : ∃ f : Nat, fi = f := ⟨fi.toNat, by omega⟩
      obtain ⟨s, rfl⟩ : ∃ s : Nat, st = s := ⟨st.toNat, by omega⟩
      have hl : (keys.length : Int) = n := by have := lx.out; omega
      have hlz0 : lastZ (checkF keys).1 keys.length = if la < 0 then la + n else la := by rw [h1, lastZ, hl]
      have hfs : (checkF keys).1.first = f ∧ (checkF keys).1.step = s ∧ (checkF keys).2 = ⟨#[]⟩ := by rw [h1]; exact ⟨rfl, rfl, rfl⟩
      have hle : le ≤ n := by omega
      have hsb : ((s : Int) == 0) = false := beq_eq_false_iff_ne.2 (by omega)
      have hs0 : ¬ (s : Int) = 0 := by omega
      have hf0 : (0 : Int) < (f : Int) := by omega
      have hs1 : 1 ≤ s := by omega
      have hfn : f < n := by omega
      have hln : la < n := by omega
      replace hfs := Lib.hid hfs
      have k8' := Lib.hid k8
      clear hr h1 h2 h3 h4 hy hl hm k8 k5 k6 hle
      go_wp2_with fail
      generalize w2.alloc (.cells #[.string nm, .int .i64 kd, .int .i64 le, .int .i64 mo, .int .i64 f, .int .i64 la, .int .i64 s] 26) = w3 at *
      obtain ⟨b4, hb4e⟩ : ∃ b, b = w2.heap.size := ⟨_, rfl⟩
      rw [← hb4e] at e0 e1 e2 e3 e4 e5 e6 hb4 hrow3 ⊢
      clear hb4e
      by_cases hneg : la < 0
      · obtain rfl : la = -1 := by omega
        obtain ⟨lz, hlq⟩ : ∃ lz, lz = (n : Int) - 1 := ⟨_, rfl⟩
        have hlz : lastZ (checkF keys).1 keys.length = lz := hlz0.trans (by rw [if_pos (by omega), hlq]; omega)
        have hfl : (f : Int) ≤ lz := by omega
        replace hlz := Lib.hid hlz
        clear hlz0
        go_loopw [3, 19] (fun v i wr => ∃ j t : Nat, j ≤ n ∧ i = .int .i64 j ∧ (∀ u : Nat, u < t ↔ f + s * u < j ∧ ((f + s * u : Nat) : Int) ≤ lz) ∧ wr.ownsRow w.heap.size 9 1 v t ((pickL keys f s t).map Value.string) ∧ (∀ k, v.ownBlock = some k → k ≠ b4) ∧ wr.rangeAt b4 0 (Spec.mk nm kd le mo f (-1) s).cells ∧ Below w.heap.size w wr) (fun _ i _ => n - (intOf i).toNat)
        case atStart => exact ⟨0, 0, Nat.zero_le _, rfl, fun u => ⟨fun h => absurd h (by omega), fun h => absurd h.1 (by omega)⟩, hown3.out, fun k hk => by cases hk; exact hb4.out, hrow3.out, hb3.out⟩
        case round =>
          obtain ⟨j, t, hj, rfl, hu, hown, hno, hrow, hbel⟩ := hrel
          clear hown3 hrow3 hb3 e0 e1 e2 e3 e4 e5 e6
          replace hu := Lib.hid hu
          have hbs := hbel.size
          by_cases hlt : j < n
          · have hjn : (j : Int) < n := by omega
            have hjk : j < keys.length := by have := lx.out; omega
            obtain ⟨b3, o3, rfl, hc3⟩ := (hx.out.below hbel).at (j := j) (by simp; exact hjk)
            have dx := hc3 _ _ (map_str_get hjk)
            have hkey : keys[j]? = some (keys[j]'hjk) := List.getElem?_eq_getElem hjk
            obtain ⟨key, hkq⟩ : ∃ z, z = keys[j]'hjk := ⟨_, rfl⟩
            rw [← hkq] at dx hkey
            replace hkey := Lib.hid hkey
            clear hkq hc3 hjk
            obtain ⟨-, -, -, -, d4, d5, d6⟩ := cells7 _ hrow
            simp only at d4 d5 d6
            by_cases hfj : f ≤ j
            · have hfj1 : (f : Int) ≤ (j : Int) := by omega
              have hw : ((j : Int) - (f : Int)).tmod (s : Int) = (((j - f) % s : Nat) : Int) := by
                rw [show (j : Int) - (f : Int) = ((j - f : Nat) : Int) by omega, Int.tmod_eq_emod_of_nonneg (by omega)]; rfl
              obtain ⟨q, hq⟩ : ∃ q, q = (j - f) % s := ⟨_, rfl⟩
              rw [← hq] at hw
              have hjl : (j : Int) ≤ lz := by omega
              by_cases hq0 : q = 0
              · have hqb : ((q : Int) == 0) = true := by simpa using hq0
                have hqz := Lib.hid (hq.symm.trans hq0)
                clear hq hq0
                obtain ⟨hjt, hu1⟩ := keys_step hs1 hu.out hfj hjl hqz.out
                have hpk : pickL keys f s (t + 1) = pickL keys f s t ++ [key] := by rw [pickL_succ, ← hjt, List.getD_eq_getElem?_getD, hkey.out]; rfl
                have htn : t < 1000000000 := by
                  have : t ≤ s * t := Nat.le_mul_of_pos_left t (by omega)
                  omega
                replace hu1 := Lib.hid hu1
                replace hpk := Lib.hid hpk
                replace hjt := Lib.hid hjt
                go_wp2_with (at_builtin; refine append_elem_at rfl rfl eStr17 rfl hown rfl rfl rfl htn hbs ?_)
                intro v' w6 hown' hfr hwh
                have hbel' := Below.of_append hbel hfr (fun k hk => (owns_block hown k hk).1) hbs
                have hrow' : w6.rangeAt b4 0 (Spec.mk nm kd le mo f _ s).cells := fun q u hq => hfr.cell (hrow q u hq) (fun e => hno b4 e rfl)
                have hno' : ∀ k, v'.ownBlock = some k → k ≠ b4 := fun k hk => by
                  rcases hwh k hk with h | h
                  · exact hno k h
                  · have h8 : b4 < wr.heap.size := World.block_lt_of_cell? _ _ d4
                    omega
                clear hown hbel hfr hwh hrow hno d4 d5 d6
                go_wp2_with fail
                go_roundw
                case rel => exact ⟨j + 1, t + 1, by omega, by go_num, hu1.out, by rw [hpk.out, List.map_append]; exact hown', hno', hrow', hbel'⟩
                case measure => simp [intOf]; omega
              · have hqb : ((q : Int) == 0) = false := by simpa using hq0
                have hqn := Lib.hid (fun h : (j - f) % s = 0 => hq0 (hq.trans h))
                clear hq hq0
                go_wp2_with fail
                go_roundw
                case rel => exact ⟨j + 1, t, by omega, by go_num, keys_skip hu.out (fun h => hqn.out h.2.2), hown, hno, hrow, hbel⟩
                case measure => simp [intOf]; omega
            · have hfj1 : ¬ (f : Int) ≤ (j : Int) := by omega
              go_wp2_with fail
              go_roundw
              case rel => exact ⟨j + 1, t, by omega, by go_num, keys_skip hu.out (fun h => absurd h.1 hfj), hown, hno, hrow, hbel⟩
              case measure => simp [intOf]; omega
          · have hjn : ¬ (j : Int) < n := by omega
            obtain rfl : j = n := by omega
            have hka : KeysAre keys f s t := ⟨fun u h9 => ⟨by omega, hs1, by have := (hu.out u).1 h9; have := lx.out; omega⟩, ⟨fun _ => ⟨hfs.out.2.2, by rw [hfs.out.1]; omega⟩, fun _ => (hu.out 0).2 ⟨by omega, by simp; omega⟩⟩, fun _ _ => ⟨hfs.out.1, hfs.out.2.1, fun u => by
              rw [hlz.out]
              exact ⟨fun h => ((hu.out u).1 h).2, fun h => (hu.out u).2 ⟨by omega, h⟩⟩⟩⟩
            have hrd := Reads.of_owns hown
            replace hka := Lib.hid hka
            replace hrd := Lib.hid hrd
            replace hbel := Lib.hid hbel
            clear hown hno hrow hbs
            go_wp2_with fail
            go_ret
            exact ⟨_, rfl, ⟨f, s, t, hka.out, hrd.out⟩, hbel.out⟩
      · have hlz : lastZ (checkF keys).1 keys.length = la := hlz0.trans (if_neg hneg)
        have hfl : (f : Int) ≤ la := k8'.out (by omega)
        have hld : decide (la < 0) = false := decide_eq_false hneg
        obtain ⟨lz, hlq⟩ : ∃ lz, lz = la := ⟨_, rfl⟩
        subst hlq
        replace hlz := Lib.hid hlz
        clear hlz0
        go_loopw [3, 19] (fun v i wr => ∃ j t : Nat, j ≤ n ∧ i = .int .i64 j ∧ (∀ u : Nat, u < t ↔ f + s * u < j ∧ ((f + s * u : Nat) : Int) ≤ lz) ∧ wr.ownsRow w.heap.size 9 1 v t ((pickL keys f s t).map Value.string) ∧ (∀ k, v.ownBlock = some k → k ≠ b4) ∧ wr.rangeAt b4 0 (Spec.mk nm kd le mo f lz s).cells ∧ Below w.heap.size w wr) (fun _ i _ => n - (intOf i).toNat)
        case atStart => exact ⟨0, 0, Nat.zero_le _, rfl, fun u => ⟨fun h => absurd h (by omega), fun h => absurd h.1 (by omega)⟩, hown3.out, fun k hk => by cases hk; exact hb4.out, hrow3.out, hb3.out⟩
        case round =>
          obtain ⟨j, t, hj, rfl, hu, hown, hno, hrow, hbel⟩ := hrel
          clear hown3 hrow3 hb3 e0 e1 e2 e3 e4 e5 e6
          replace hu := Lib.hid hu
          have hbs := hbel.size
          by_cases hlt : j < n
          · have hjn : (j : Int) < n := by omega
            have hjk : j < keys.length := by have := lx.out; omega
            obtain ⟨b3, o3, rfl, hc3⟩ := (hx.out.below hbel).at (j := j) (by simp; exact hjk)
            have dx := hc3 _ _ (map_str_get hjk)
            have hkey : keys[j]? = some (keys[j]'hjk) := List.getElem?_eq_getElem hjk
            obtain ⟨key, hkq⟩ : ∃ z, z = keys[j]'hjk := ⟨_, rfl⟩
            rw [← hkq] at dx hkey
            replace hkey := Lib.hid hkey
            clear hkq hc3 hjk
            obtain ⟨-, -, -, -, d4, d5, d6⟩ := cells7 _ hrow
            simp only at d4 d5 d6
            by_cases hfj : f ≤ j
            · have hfj1 : (f : Int) ≤ (j : Int) := by omega
              have hw : ((j : Int) - (f : Int)).tmod (s : Int) = (((j - f) % s : Nat) : Int) := by
                rw [show (j : Int) - (f : Int) = ((j - f : Nat) : Int) by omega, Int.tmod_eq_emod_of_nonneg (by omega)]; rfl
              obtain ⟨q, hq⟩ : ∃ q, q = (j - f) % s := ⟨_, rfl⟩
              rw [← hq] at hw
              by_cases hjl : (j : Int) ≤ lz
              · by_cases hq0 : q = 0
                · have hqb : ((q : Int) == 0) = true := by simpa using hq0
                  have hqz := Lib.hid (hq.symm.trans hq0)
                  clear hq hq0
                  obtain ⟨hjt, hu1⟩ := keys_step hs1 hu.out hfj hjl hqz.out
                  have hpk : pickL keys f s (t + 1) = pickL keys f s t ++ [key] := by rw [pickL_succ, ← hjt, List.getD_eq_getElem?_getD, hkey.out]; rfl
                  have htn : t < 1000000000 := by
                    have : t ≤ s * t := Nat.le_mul_of_pos_left t (by omega)
                    omega
                  replace hu1 := Lib.hid hu1
                  replace hpk := Lib.hid hpk
                  replace hjt := Lib.hid hjt
                  go_wp2_with (at_builtin; refine append_elem_at rfl rfl eStr17 rfl hown rfl rfl rfl htn hbs ?_)
                  intro v' w6 hown' hfr hwh
                  have hbel' := Below.of_append hbel hfr (fun k hk => (owns_block hown k hk).1) hbs
                  have hrow' : w6.rangeAt b4 0 (Spec.mk nm kd le mo f _ s).cells := fun q u hq => hfr.cell (hrow q u hq) (fun e => hno b4 e rfl)
                  have hno' : ∀ k, v'.ownBlock = some k → k ≠ b4 := fun k hk => by
                    rcases hwh k hk with h | h
                    · exact hno k h
                    · have h8 : b4 < wr.heap.size := World.block_lt_of_cell? _ _ d4
                      omega
                  clear hown hbel hfr hwh hrow hno d4 d5 d6
                  go_wp2_with fail
                  go_roundw
                  case rel => exact ⟨j + 1, t + 1, by omega, by go_num, hu1.out, by rw [hpk.out, List.map_append]; exact hown', hno', hrow', hbel'⟩
                  case measure => simp [intOf]; omega
                · have hqb : ((q : Int) == 0) = false := by simpa using hq0
                  have hqn := Lib.hid (fun h : (j - f) % s = 0 => hq0 (hq.trans h))
                  clear hq hq0
                  go_wp2_with fail
                  go_roundw
                  case rel => exact ⟨j + 1, t, by omega, by go_num, keys_skip hu.out (fun h => hqn.out h.2.2), hown, hno, hrow, hbel⟩
                  case measure => simp [intOf]; omega
              · go_wp2_with fail
                go_roundw
                case rel => exact ⟨j + 1, t, by omega, by go_num, keys_skip hu.out (fun h => absurd h.2.1 hjl), hown, hno, hrow, hbel⟩
                case measure => simp [intOf]; omega
            · have hfj1 : ¬ (f : Int) ≤ (j : Int) := by omega
              go_wp2_with fail
              go_roundw
              case rel => exact ⟨j + 1, t, by omega, by go_num, keys_skip hu.out (fun h => absurd h.1 hfj), hown, hno, hrow, hbel⟩
              case measure => simp [intOf]; omega
          · have hjn : ¬ (j : Int) < n := by omega
            obtain rfl : j = n := by omega
            have hka : KeysAre keys f s t := ⟨fun u h9 => ⟨by omega, hs1, by have := (hu.out u).1 h9; have := lx.out; omega⟩, ⟨fun _ => ⟨hfs.out.2.2, by rw [hfs.out.1]; omega⟩, fun _ => (hu.out 0).2 ⟨by omega, by simp; omega⟩⟩, fun _ _ => ⟨hfs.out.1, hfs.out.2.1, fun u => by
              rw [hlz.out]
              exact ⟨fun h => ((hu.out u).1 h).2, fun h => (hu.out u).2 ⟨by omega, h⟩⟩⟩⟩
            have hrd := Reads.of_owns hown
            replace hka := Lib.hid hka
            replace hrd := Lib.hid hrd
            replace hbel := Lib.hid hbel
            clear hown hno hrow hbs
            go_wp2_with fail
            go_ret
            exact ⟨_, rfl, ⟨f, s, t, hka.out, hrd.out⟩, hbel.out⟩
end Go.Proofs.YtdhojdkeidilfaaDoor
