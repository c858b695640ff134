/- Lists of texts: held against each other. -/
import Derived.Test.YtdhojdkeidilfaaDoorProg
import Derived.Test.YtdhojdkeidilfaaDoorBase
import Derived.BigQuiet
import Derived.Deep.QuietTactic
namespace Go.Proofs.YtdhojdkeidilfaaDoor
open Go.RowKit

set_option maxHeartbeats 800000 in
theorem same06_any {w : World} {a b : Option Addr} {n m ca cb : Nat} {xs ys : List ByteArray} (hx : Reads w 1 (.slice a n ca) n (xs.map Value.string)) (hy : Reads w 1 (.slice b m cb) m (ys.map Value.string)) (hn : n ≤ 1000000000) (hm : m ≤ 1000000000) :
    Calls Tryd.prog 15 #[.slice a n ca, .slice b m cb] w fun e w' => e = .returned (.bool (decide (xs = ys))) ∧ ∃ k, w' = w.drewN k := by
  have lx := hx.len.2
  have ly := hy.len.2
  simp at lx ly
  by_cases hnm : n = m
  · subst hnm
    have hnm : (((n : Nat) : Int) != (n : Int)) = false := by simp
    go_enter Tryd.func15, Tryd.ntmps15
    go_wp2
    go_loopw [13] (fun i wr => ∃ k : Nat, k ≤ n ∧ i = .int .i64 k ∧ xs.take k = ys.take k ∧ ∃ q, wr = w.drewN q) (fun i _ => n - (intOf i).toNat)
    case atStart => exact ⟨0, Nat.zero_le _, rfl, rfl, 0, rfl⟩
    case round =>
      obtain ⟨k, hk, rfl, htk, q, rfl⟩ := hrel
      by_cases hlt : k < n
      · obtain ⟨b1, o1, rfl, hc1⟩ := hx.at (j := k) (by simp; omega)
        obtain ⟨b2, o2, rfl, hc2⟩ := hy.at (j := k) (by simp; omega)
        have hkx : k < xs.length := by omega
        have hky : k < ys.length := by omega
        have d1 := hc1 k _ (map_str_get hkx)
        have d2 := hc2 k _ (map_str_get hky)
        have e1 : xs.take (k + 1) = xs.take k ++ [xs[k]] := List.take_succ_eq_append_getElem hkx
        have e2 : ys.take (k + 1) = ys.take k ++ [ys[k]] := List.take_succ_eq_append_getElem hky
        obtain ⟨x, hxe⟩ : ∃ x, x = xs[k] := ⟨_, rfl⟩
        obtain ⟨y, hye⟩ : ∃ y, y = ys[k] := ⟨_, rfl⟩
        rw [← hxe] at d1 e1
        rw [← hye] at d2 e2
        replace e1 := Lib.hid e1
        replace e2 := Lib.hid e2
        replace hxe := Lib.hid hxe
        replace hye := Lib.hid hye
        replace htk := Lib.hid htk
        replace lx := Lib.hid lx
        replace ly := Lib.hid ly
        clear hc1 hc2 hx hy
        by_cases hxy : x = y
        · subst hxy
          have i0 : (0 : Int) ≤ (k : Int) := by omega
          have i1 : (k : Int) < (n : Int) := by omega
          go_wp2
          go_quiet (fail)
          go_wp2
          go_roundw
          case rel => exact ⟨k + 1, by omega, by go_num, by rw [e1.out, e2.out, htk.out], _, rfl⟩
          case measure => simp [intOf]; omega
        · have hs := str_ne hxy
          have hne : ¬ xs = ys := fun e => hxy (by rw [hxe.out, hye.out]; subst e; rfl)
          have i0 : (0 : Int) ≤ (k : Int) := by omega
          have i1 : (k : Int) < (n : Int) := by omega
          replace hne := Lib.hid hne
          clear hxy
          go_wp2
          go_quiet (fail)
          go_wp2
          go_ret
          exact ⟨by simp [hne.out], q + nq, by simp⟩
      · have hkn : k = n := by omega
        subst hkn
        rw [List.take_of_length_le (by omega), List.take_of_length_le (by omega)] at htk
        subst htk
        clear hx hy lx ly
        go_wp2
        go_ret
        exact ⟨by simp, _, rfl⟩
  · have h1 : ¬ xs = ys := fun e => hnm (by rw [← lx, ← ly, e])
    have h2 : (((n : Nat) : Int) != (m : Int)) = true := by simp; omega
    replace h1 := Lib.hid h1
    clear hx hy lx ly
    go_enter Tryd.func15, Tryd.ntmps15
    go_wp2
    go_ret
    exact ⟨by simp [h1.out], 0, rfl⟩
end Go.Proofs.YtdhojdkeidilfaaDoor
