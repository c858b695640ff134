/- words.Keys. -/
import Derived.Test.YtdhojdkeidilfaaDoorAlive17
namespace Go.Proofs.YtdhojdkeidilfaaDoor
open Go.RowKit

theorem eStr17 : Elem Tryd.prog 29 9 1 16 := elem_of Tryd.underlying29 (by decide) (by decide) (by kernel_rfl)
theorem eWrong_ne (name : ByteArray) : eWrong name ≠ ⟨#[]⟩ := by
  intro h
  have := congrArg ByteArray.size h
  rw [eWrong, ByteArray.size_append] at this
  have t2 : 34 + (lowB name).size = 0 := this
  omega
theorem check_cases (keys : List ByteArray) : ((checkF keys).1 = zeroSpec ∧ (checkF keys).2 ≠ ⟨#[]⟩) ∨
    ∃ x ∈ words17, checkF keys = (x, ⟨#[]⟩) ∧ x.least ≤ keys.length ∧ keys.length ≤ x.most ∧ oddB x.name keys.length = false := by
  cases keys with
  | nil => exact Or.inl ⟨rfl, by show eNone ≠ _; decide⟩
  | cons k ks =>
    rw [checkF]
    by_cases hf : (found words17 (upB k)).2 = false
    · rw [if_pos hf]; exact Or.inl ⟨rfl, by show eUnknown ≠ _; decide⟩
    · rw [if_neg hf, checkS]
      by_cases hw : wrongB (found words17 (upB k)).1 ((k :: ks).length : Nat) = true
      · rw [if_pos hw]; exact Or.inl ⟨rfl, eWrong_ne _⟩
      · rw [if_neg hw]
        simp only [wrongB, Bool.or_eq_true, decide_eq_true_eq, not_or, Bool.not_eq_true, Int.not_lt] at hw
        exact Or.inr ⟨_, found_mem (by simpa using hf), rfl, hw.1.1, hw.1.2, hw.2⟩
theorem row_ok : ∀ x ∈ words17, (x.first = 0 ∨ (1 ≤ x.first ∧ x.first ≤ 3 ∧ 1 ≤ x.step ∧ x.step ≤ 2 ∧ x.first < x.least ∧ x.last < x.least ∧ -1 ≤ x.last ∧ (0 ≤ x.last → x.first ≤ x.last))) ∧ x.name ≠ ⟨#[]⟩ := by decide
def lastZ (x : Spec) (n : Nat) : Int := if x.last < 0 then x.last + n else x.last
def pickL (keys : List ByteArray) (f s t : Nat) : List ByteArray := (List.range t).map fun u => keys.getD (f + s * u) ⟨#[]⟩
theorem pickL_succ (keys : List ByteArray) (f s t : Nat) : pickL keys f s (t + 1) = pickL keys f s t ++ [keys.getD (f + s * t) ⟨#[]⟩] := by simp [pickL, List.range_succ]
theorem pickL_len (keys : List ByteArray) (f s t : Nat) : (pickL keys f s t).length = t := by simp [pickL]
/-- How many keys there are. -/
def KeysAre (keys : List ByteArray) (f s t : Nat) : Prop :=
  (∀ u, u < t → 1 ≤ f ∧ 1 ≤ s ∧ f + s * u < keys.length) ∧ (0 < t ↔ (checkF keys).2 = ⟨#[]⟩ ∧ 0 < (checkF keys).1.first) ∧
  ((checkF keys).2 = ⟨#[]⟩ → 0 < (checkF keys).1.first → (checkF keys).1.first = f ∧ (checkF keys).1.step = s ∧ (∀ u : Nat, u < t ↔ ((f + s * u : Nat) : Int) ≤ lastZ (checkF keys).1 keys.length))
theorem nil_owns (w : World) (base e size : Nat) : w.ownsRow base e size (.slice none 0 0) 0 [] := ⟨by simp, Or.inl ⟨rfl, rfl⟩⟩
set_option maxRecDepth 100000 in
set_option maxHeartbeats 1600000 in
theorem keys17_any {w : World} {a : Option Addr} {n ca : Nat} {keys : List ByteArray} (hx : Reads w 1 (.slice a n ca) n (keys.map Value.string)) (hs : ∀ k ∈ keys, k.size ≤ 9223372036854775807) (hn : n ≤ 1000000) :
    Calls Tryd.prog 12 #[.slice a n ca] w fun e w' => ∃ v, e = .returned v ∧ ∃ f s t, KeysAre keys f s t ∧ Reads w' 1 v t ((pickL keys f s t).map Value.string) ∧ Below w.heap.size w w' := by
  have lx := hx.len.2
  simp only [List.length_map, Nat.mul_one] at lx
  go_enter Tryd.func12, Tryd.ntmps12
  go_wp2_with fail
  refine (check17_any hx hs hn).mono ?_
  rintro e w1 ⟨he, hb1⟩
  have hcc := check_cases keys
  obtain ⟨x, hxq⟩ : ∃ x, x = (checkF keys).1 := ⟨_, rfl⟩
  obtain ⟨m, hm⟩ : ∃ m, m = (checkF keys).2 := ⟨_, rfl⟩
  rw [← hxq, ← hm] at he
  replace he : e = .returned (.tuple #[.agg #[.string x.name, .int .i64 x.kind, .int .i64 x.least, .int .i64 x.most, .int .i64 x.first, .int .i64 x.last, .int .i64 x.step], .string m]) := he
  subst he
  have hb2 := (Below.refl w1.heap.size w1).alloc (Nat.le_refl _) (.cells #[.string x.name, .int .i64 x.kind, .int .i64 x.least, .int .i64 x.most, .int .i64 x.first, .int .i64 x.last, .int .i64 x.step] 26)
  obtain ⟨g0, g1, g2, g3, g4, g5, g6⟩ := cells7 x (new7 x w1)
  have hb12 := hb1.trans (hb2.mono hb1.size)
  have hx2 := hx.below hb12
  clear hx hs
  replace hx2 := Lib.hid hx2
  replace hb12 := Lib.hid hb12
  rcases hcc with ⟨h1, h2⟩ | ⟨y, hy, h1, h2, h3, h4⟩
  · rw [← hxq] at h1
    rw [← hm] at h2
    have hme : (m.toList == []) = false := by rw [str_beqL]; simpa using h2
    have hka : KeysAre keys 0 0 0 := ⟨fun u hu => absurd hu (by omega), ⟨fun h => absurd h (by omega), fun h => absurd (hm.trans h.1) h2⟩, fun h _ => absurd (hm.trans h) h2⟩
    replace hka := Lib.hid hka
    clear h1 h2 hxq hm
    go_wp2
    go_ret
    exact ⟨_, rfl, 0, 0, 0, hka.out, ⟨none, 0, rfl, rfl, fun j u h => by simp [pickL] at h⟩, hb12.out⟩
  · have hr := row_ok y hy
    rw [h1] at hxq hm
    subst hxq hm
    obtain ⟨nm, kd, le, mo, fi, la, st⟩ := x
    simp only at hr h2 h3 g0 g1 g2 g3 g4 g5 g6
    rcases hr.1 with h0 | ⟨k1, k2, k3, k4, k5, k6, k7, k8⟩
    · subst h0
      have hka : KeysAre keys 0 0 0 := ⟨fun u hu => absurd hu (by omega), ⟨fun h => absurd h (by omega), fun h => absurd h.2 (by rw [h1]; simp)⟩, fun _ h => absurd h (by rw [h1]; simp)⟩
      replace hka := Lib.hid hka
      clear hr h1 h2 h3 h4 hy
      go_wp2
      go_ret
      exact ⟨_, rfl, 0, 0, 0, hka.out, ⟨none, 0, rfl, rfl, fun j u h => by simp [pickL] at h⟩, hb12.out⟩
    · obtain ⟨f, rfl⟩ : ∃ f : Nat, fi = f := ⟨fi.toNat, by omega⟩
      obtain ⟨s, rfl⟩ : ∃ s : Nat, st = s := ⟨st.toNat, by omega⟩
      have hl : (keys.length : Int) = n := by omega
      have hlz : lastZ (checkF keys).1 keys.length = if la < 0 then la + n else la := by rw [h1, lastZ, hl]
      have hfs : (checkF keys).1.first = f ∧ (checkF keys).1.step = s ∧ (checkF keys).2 = ⟨#[]⟩ := by rw [h1]; exact ⟨rfl, rfl, rfl⟩
      have hfn : ¬ ((f : Int) = 0) := by omega
      have hfb : ((f : Int) == 0) = false := by simpa using hfn
      replace hlz := Lib.hid hlz
      replace hfs := Lib.hid hfs
      have hle : le ≤ n := by omega
      clear hr h1 h2 h3 h4 hy hl
      by_cases hneg : la < 0
      · obtain rfl : la = -1 := by omega
        obtain ⟨lz, hq⟩ : ∃ lz, lz = (-1 + (n : Int)) := ⟨_, rfl⟩
        have z1 : (f : Int) ≤ lz := by omega
        have z2 : lz < n := by omega
        have hlz2 := (hlz.out).trans (show (if (-1 : Int) < 0 then (-1 : Int) + n else -1) = lz by rw [if_pos (by omega), hq])
        replace hlz2 := Lib.hid hlz2
        clear hlz
        go_wp2_with fail
        rw [← hq]
        clear hq hneg k5 k6 k7 k8 hle
        generalize w1.alloc (.cells #[.string nm, .int .i64 kd, .int .i64 le, .int .i64 mo, .int .i64 f, .int .i64 _, .int .i64 s] 26) = w2 at *
        clear g0 g1 g2 g3 g4 g5
        replace g6 := Lib.hid g6
        replace k3 := Lib.hid k3
        go_loopw [6, 7] (fun v i wr => ∃ t : Nat, (∀ u : Nat, u < t → ((f + s * u : Nat) : Int) ≤ lz) ∧ i = .int .i64 ((f + s * t : Nat) : Int) ∧ wr.ownsRow w2.heap.size 9 1 v t ((pickL keys f s t).map Value.string) ∧ Below w2.heap.size w2 wr) (fun _ i _ => n + 5 - (intOf i).toNat)
        case atStart => exact ⟨0, fun u hu => absurd hu (by omega), by simp, nil_owns _ _ _ _, Below.refl _ _⟩
        case round =>
          obtain ⟨t, hu, rfl, hown, hbel⟩ := hrel
          replace hu := Lib.hid hu
          obtain ⟨q, hq⟩ : ∃ q, q = f + s * t := ⟨_, rfl⟩
          rw [← hq]
          have hqs : f + s * (t + 1) = q + s := by rw [hq, Nat.mul_add]; omega
          have hst : t ≤ s * t := Nat.le_mul_of_pos_left t (by have := k3.out; omega)
          have hs1 : 1 ≤ s := by have := k3.out; omega
          by_cases hlt : (q : Int) ≤ lz
          · have hqn : q < keys.length := by omega
            have htn : t < 1000000000 := by omega
            have g6' := cell_b hbel g6.out
            have hx3 := hx2.out.below hbel
            obtain ⟨b3, o3, rfl, hc3⟩ := hx3.at (j := q) (by simp; exact hqn)
            have dx := hc3 _ _ (map_str_get hqn)
            have hpk : pickL keys f s (t + 1) = pickL keys f s t ++ [keys[q]] := by rw [pickL_succ, ← hq, List.getD_eq_getElem?_getD, List.getElem?_eq_getElem hqn]; rfl
            obtain ⟨key, hkey⟩ : ∃ x, x = keys[q] := ⟨_, rfl⟩
            rw [← hkey] at dx hpk
            replace hkey := Lib.hid hkey
            replace hpk := Lib.hid hpk
            replace hq := Lib.hid hq
            replace hqs := Lib.hid hqs
            have hqn2 : (q : Int) < n := by omega
            clear hc3 hx3
            go_wp2_with (at_builtin; refine append_elem rfl rfl eStr17 rfl hown rfl rfl rfl htn hbel.size ?_)
            intro v' w6 hown' hfr
            have hbel' := Below.of_append hbel hfr (fun k hk => (owns_block hown k hk).1) hbel.size
            have g6' := cell_b hbel' g6.out
            clear hown hbel hfr dx
            go_wp2
            go_roundw
            case rel =>
              exact ⟨t + 1, fun u h9 => by
              rcases Nat.lt_or_ge u t with h8 | h8
              · exact hu.out u h8
              · have : u = t := by omega
                subst this
                rw [← hq.out]; exact hlt, by rw [hqs.out]; go_num, by rw [hpk.out, List.map_append]; exact hown', hbel'⟩
            case measure => simp [intOf]; omega
          · have hka : KeysAre keys f s t := ⟨fun u h9 => ⟨by omega, hs1, by have := hu.out u h9; omega⟩, ⟨fun _ => ⟨hfs.out.2.2, by rw [hfs.out.1]; omega⟩, fun _ => by
                rcases Nat.eq_zero_or_pos t with h8 | h8
                · subst h8; simp at hq; omega
                · exact h8⟩, fun _ _ => ⟨hfs.out.1, hfs.out.2.1, fun u => by
                rw [hlz2.out]
                constructor
                · exact hu.out u
                · intro h9
                  rcases Nat.lt_or_ge u t with h8 | h8
                  · exact h8
                  · have := Nat.mul_le_mul_left s h8
                    omega⟩⟩
            have hrd := Reads.of_owns hown
            have hbb : Below w.heap.size w wr := hb12.out.trans (hbel.mono hb12.out.size)
            replace hka := Lib.hid hka
            replace hrd := Lib.hid hrd
            replace hbb := Lib.hid hbb
            clear hown hbel hqs hst hq
            go_wp2
            go_ret
            exact ⟨_, rfl, f, s, t, hka.out, hrd.out, hbb.out⟩
      · obtain ⟨lz, hq⟩ : ∃ lz, lz = la := ⟨_, rfl⟩
        have z1 : (f : Int) ≤ lz := by omega
        have z2 : lz < n := by omega
        have hlz2 := (hlz.out).trans (show (if la < 0 then la + (n : Int) else la) = lz by rw [if_neg hneg, hq])
        replace hlz2 := Lib.hid hlz2
        clear hlz
        subst hq
        have hld : decide (lz < 0) = false := decide_eq_false hneg
        go_wp2_with fail
        clear hneg k5 k6 k7 k8 hle
        generalize w1.alloc (.cells #[.string nm, .int .i64 kd, .int .i64 le, .int .i64 mo, .int .i64 f, .int .i64 _, .int .i64 s] 26) = w2 at *
        clear g0 g1 g2 g3 g4 g5
        replace g6 := Lib.hid g6
        replace k3 := Lib.hid k3
        go_loopw [6, 7] (fun v i wr => ∃ t : Nat, (∀ u : Nat, u < t → ((f + s * u : Nat) : Int) ≤ lz) ∧ i = .int .i64 ((f + s * t : Nat) : Int) ∧ wr.ownsRow w2.heap.size 9 1 v t ((pickL keys f s t).map Value.string) ∧ Below w2.heap.size w2 wr) (fun _ i _ => n + 5 - (intOf i).toNat)
        case atStart => exact ⟨0, fun u hu => absurd hu (by omega), by simp, nil_owns _ _ _ _, Below.refl _ _⟩
        case round =>
          obtain ⟨t, hu, rfl, hown, hbel⟩ := hrel
          replace hu := Lib.hid hu
          obtain ⟨q, hq⟩ : ∃ q, q = f + s * t := ⟨_, rfl⟩
          rw [← hq]
          have hqs : f + s * (t + 1) = q + s := by rw [hq, Nat.mul_add]; omega
          have hst : t ≤ s * t := Nat.le_mul_of_pos_left t (by have := k3.out; omega)
          have hs1 : 1 ≤ s := by have := k3.out; omega
          by_cases hlt : (q : Int) ≤ lz
          · have hqn : q < keys.length := by omega
            have htn : t < 1000000000 := by omega
            have g6' := cell_b hbel g6.out
            have hx3 := hx2.out.below hbel
            obtain ⟨b3, o3, rfl, hc3⟩ := hx3.at (j := q) (by simp; exact hqn)
            have dx := hc3 _ _ (map_str_get hqn)
            have hpk : pickL keys f s (t + 1) = pickL keys f s t ++ [keys[q]] := by rw [pickL_succ, ← hq, List.getD_eq_getElem?_getD, List.getElem?_eq_getElem hqn]; rfl
            obtain ⟨key, hkey⟩ : ∃ x, x = keys[q] := ⟨_, rfl⟩
            rw [← hkey] at dx hpk
            replace hkey := Lib.hid hkey
            replace hpk := Lib.hid hpk
            replace hq := Lib.hid hq
            replace hqs := Lib.hid hqs
            have hqn2 : (q : Int) < n := by omega
            clear hc3 hx3
            go_wp2_with (at_builtin; refine append_elem rfl rfl eStr17 rfl hown rfl rfl rfl htn hbel.size ?_)
            intro v' w6 hown' hfr
            have hbel' := Below.of_append hbel hfr (fun k hk => (owns_block hown k hk).1) hbel.size
            have g6' := cell_b hbel' g6.out
            clear hown hbel hfr dx
            go_wp2
            go_roundw
            case rel =>
              exact ⟨t + 1, fun u h9 => by
              rcases Nat.lt_or_ge u t with h8 | h8
              · exact hu.out u h8
              · have : u = t := by omega
                subst this
                rw [← hq.out]; exact hlt, by rw [hqs.out]; go_num, by rw [hpk.out, List.map_append]; exact hown', hbel'⟩
            case measure => simp [intOf]; omega
          · have hka : KeysAre keys f s t := ⟨fun u h9 => ⟨by omega, hs1, by have := hu.out u h9; omega⟩, ⟨fun _ => ⟨hfs.out.2.2, by rw [hfs.out.1]; omega⟩, fun _ => by
                rcases Nat.eq_zero_or_pos t with h8 | h8
                · subst h8; simp at hq; omega
                · exact h8⟩, fun _ _ => ⟨hfs.out.1, hfs.out.2.1, fun u => by
                rw [hlz2.out]
                constructor
                · exact hu.out u
                · intro h9
                  rcases Nat.lt_or_ge u t with h8 | h8
                  · exact h8
                  · have := Nat.mul_le_mul_left s h8
                    omega⟩⟩
            have hrd := Reads.of_owns hown
            have hbb : Below w.heap.size w wr := hb12.out.trans (hbel.mono hb12.out.size)
            replace hka := Lib.hid hka
            replace hrd := Lib.hid hrd
            replace hbb := Lib.hid hbb
            clear hown hbel hqs hst hq
            go_wp2
            go_ret
            exact ⟨_, rfl, f, s, t, hka.out, hrd.out, hbb.out⟩
end Go.Proofs.YtdhojdkeidilfaaDoor
