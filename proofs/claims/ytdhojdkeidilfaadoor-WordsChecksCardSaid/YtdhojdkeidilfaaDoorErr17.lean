/- words.Error. -/
import Derived.Test.YtdhojdkeidilfaaDoorErrP
namespace Go.Proofs.YtdhojdkeidilfaaDoor
open Go.RowKit

theorem text17_any (n : Int) (h0 : -9223372036854775808 ≤ n) (h1 : n ≤ 9223372036854775807) (w : World) (ht : Lib.TabIs Tryd.prog w "internal/strconv.uint64pow10" .u64 Lib.pow10Tab) :
    Calls Tryd.prog 28 #[.int .i64 n] w fun e w' => e = .returned (.string ⟨(Lib.itoa n).toArray⟩) ∧ Below w.heap.size w w' := by
  go_enter Tryd.func28, Tryd.ntmps28
  go_wp2_with fail
  refine (Tryd.strconv_FormatInt_10 n h0 h1 w ht).mono ?_
  rintro e w' ⟨rfl, k, os, hw⟩
  have hb : Below w.heap.size w w' := by rw [hw]; exact Lib.below_grow w.heap.size w (Nat.le_refl _) k os
  clear hw
  go_wp2
  go_ret
  exact ⟨rfl, hb⟩
set_option maxRecDepth 100000 in
set_option maxHeartbeats 6400000 in
theorem error17_any (n : Int) (h0 : -9223372036854775808 ≤ n) (h1 : n ≤ 9223372036854775807) (w : World) (ht : Lib.TabIs Tryd.prog w "internal/strconv.uint64pow10" .u64 Lib.pow10Tab) :
    Calls Tryd.prog 13 #[.int .i64 n] w fun e w' => ∃ s : ByteArray, e = .returned (.string s) ∧ (s ≠ ⟨#[]⟩ ∧ lineB s.data.toList = true) ∧ Below w.heap.size w w' := by
  by_cases c11 : n = 11
  · subst c11
    go_enter Tryd.func13, Tryd.ntmps13
    go_wp2
    go_ret
    exact ⟨_, rfl, ⟨by decide, by decide⟩, Below.refl _ _⟩
  by_cases c92 : n = 92
  · subst c92
    go_enter Tryd.func13, Tryd.ntmps13
    go_wp2
    go_ret
    exact ⟨_, rfl, ⟨by decide, by decide⟩, Below.refl _ _⟩
  by_cases c111 : n = 111
  · subst c111
    go_enter Tryd.func13, Tryd.ntmps13
    go_wp2
    go_ret
    exact ⟨_, rfl, ⟨by decide, by decide⟩, Below.refl _ _⟩
  by_cases c12 : n = 12
  · subst c12
    go_enter Tryd.func13, Tryd.ntmps13
    go_wp2
    go_ret
    exact ⟨_, rfl, ⟨by decide, by decide⟩, Below.refl _ _⟩
  by_cases c93 : n = 93
  · subst c93
    go_enter Tryd.func13, Tryd.ntmps13
    go_wp2
    go_ret
    exact ⟨_, rfl, ⟨by decide, by decide⟩, Below.refl _ _⟩
  by_cases c21 : n = 21
  · subst c21
    go_enter Tryd.func13, Tryd.ntmps13
    go_wp2
    go_ret
    exact ⟨_, rfl, ⟨by decide, by decide⟩, Below.refl _ _⟩
  by_cases c91 : n = 91
  · subst c91
    go_enter Tryd.func13, Tryd.ntmps13
    go_wp2
    go_ret
    exact ⟨_, rfl, ⟨by decide, by decide⟩, Below.refl _ _⟩
  by_cases c94 : n = 94
  · subst c94
    go_enter Tryd.func13, Tryd.ntmps13
    go_wp2
    go_ret
    exact ⟨_, rfl, ⟨by decide, by decide⟩, Below.refl _ _⟩
  by_cases c31 : n = 31
  · subst c31
    go_enter Tryd.func13, Tryd.ntmps13
    go_wp2
    go_ret
    exact ⟨_, rfl, ⟨by decide, by decide⟩, Below.refl _ _⟩
  by_cases c121 : n = 121
  · subst c121
    go_enter Tryd.func13, Tryd.ntmps13
    go_wp2
    go_ret
    exact ⟨_, rfl, ⟨by decide, by decide⟩, Below.refl _ _⟩
  by_cases c131 : n = 131
  · subst c131
    go_enter Tryd.func13, Tryd.ntmps13
    go_wp2
    go_ret
    exact ⟨_, rfl, ⟨by decide, by decide⟩, Below.refl _ _⟩
  by_cases c132 : n = 132
  · subst c132
    go_enter Tryd.func13, Tryd.ntmps13
    go_wp2
    go_ret
    exact ⟨_, rfl, ⟨by decide, by decide⟩, Below.refl _ _⟩
  by_cases c161 : n = 161
  · subst c161
    go_enter Tryd.func13, Tryd.ntmps13
    go_wp2
    go_ret
    exact ⟨_, rfl, ⟨by decide, by decide⟩, Below.refl _ _⟩
  by_cases c61 : n = 61
  · subst c61
    go_enter Tryd.func13, Tryd.ntmps13
    go_wp2
    go_ret
    exact ⟨_, rfl, ⟨by decide, by decide⟩, Below.refl _ _⟩
  have hlen := Lib.itoa_length_le n h0 h1
  have hby := itoa_bytes n
  have hll : ¬ 9223372036854775807 < 4 + (Lib.itoa n).length := by omega
  go_enter Tryd.func13, Tryd.ntmps13
  go_wp2_with fail
  refine (text17_any n h0 h1 w ht).mono ?_
  rintro e w' ⟨rfl, hb⟩
  go_wp2
  go_ret
  refine ⟨_, rfl, ⟨?_, ?_⟩, hb⟩
  · intro h
    have := congrArg ByteArray.size h
    rw [ByteArray.size_append] at this
    simp [ByteArray.size] at this
  · have := lineB_err (Lib.itoa n) (by omega) hby
    simpa [ByteArray.data_append] using this
end Go.Proofs.YtdhojdkeidilfaaDoor
