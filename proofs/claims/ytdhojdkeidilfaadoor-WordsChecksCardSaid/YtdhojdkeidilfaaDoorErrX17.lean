/- words.Error and nearhandref17.Error: one text. -/
import Derived.Test.YtdhojdkeidilfaaDoorText01
namespace Go.Proofs.YtdhojdkeidilfaaDoor
open Go.RowKit

def errT (n : Int) : ByteArray :=
  if n = 11 ∨ n = 92 ∨ n = 111 then ⟨#[69, 82, 82, 32, 118, 97, 108, 117, 101, 32, 105, 115, 32, 110, 111, 116, 32, 97, 110, 32, 105, 110, 116, 101, 103, 101, 114, 32, 111, 114, 32, 111, 117, 116, 32, 111, 102, 32, 114, 97, 110, 103, 101]⟩ else
  if n = 12 then ⟨#[69, 82, 82, 32, 105, 110, 99, 114, 101, 109, 101, 110, 116, 32, 111, 114, 32, 100, 101, 99, 114, 101, 109, 101, 110, 116, 32, 119, 111, 117, 108, 100, 32, 111, 118, 101, 114, 102, 108, 111, 119]⟩ else
  if n = 93 then ⟨#[69, 82, 82, 32, 118, 97, 108, 117, 101, 32, 105, 115, 32, 110, 111, 116, 32, 97, 32, 118, 97, 108, 105, 100, 32, 102, 108, 111, 97, 116]⟩ else
  if n = 21 then ⟨#[69, 82, 82, 32, 105, 110, 99, 114, 101, 109, 101, 110, 116, 32, 119, 111, 117, 108, 100, 32, 112, 114, 111, 100, 117, 99, 101, 32, 78, 97, 78, 32, 111, 114, 32, 73, 110, 102, 105, 110, 105, 116, 121]⟩ else
  if n = 91 then ⟨#[87, 82, 79, 78, 71, 84, 89, 80, 69, 32, 79, 112, 101, 114, 97, 116, 105, 111, 110, 32, 97, 103, 97, 105, 110, 115, 116, 32, 97, 32, 107, 101, 121, 32, 104, 111, 108, 100, 105, 110, 103, 32, 116, 104, 101, 32, 119, 114, 111, 110, 103, 32, 107, 105, 110, 100, 32, 111, 102, 32, 118, 97, 108, 117, 101]⟩ else
  if n = 94 ∨ n = 31 then ⟨#[69, 82, 82, 32, 118, 97, 108, 117, 101, 32, 105, 115, 32, 116, 111, 111, 32, 108, 111, 110, 103]⟩ else
  if n = 121 then ⟨#[79, 79, 77, 32, 99, 111, 109, 109, 97, 110, 100, 32, 110, 111, 116, 32, 97, 108, 108, 111, 119, 101, 100, 32, 119, 104, 101, 110, 32, 117, 115, 101, 100, 32, 109, 101, 109, 111, 114, 121, 32, 105, 115, 32, 102, 117, 108, 108]⟩ else
  if n = 131 then ⟨#[69, 82, 82, 32, 115, 121, 110, 116, 97, 120, 32, 101, 114, 114, 111, 114]⟩ else
  if n = 132 then ⟨#[69, 82, 82, 32, 111, 112, 116, 105, 111, 110, 115, 32, 100, 111, 32, 110, 111, 116, 32, 103, 111, 32, 116, 111, 103, 101, 116, 104, 101, 114]⟩ else
  if n = 161 then ⟨#[69, 82, 82, 32, 110, 111, 32, 115, 117, 99, 104, 32, 99, 108, 105, 101, 110, 116]⟩ else
  if n = 61 then ⟨#[69, 82, 82, 32, 80, 114, 111, 116, 111, 99, 111, 108, 32, 101, 114, 114, 111, 114]⟩ else
  (⟨#[69, 82, 82, 32]⟩ : ByteArray) ++ itoaB n

set_option maxRecDepth 100000 in
set_option maxHeartbeats 6400000 in
theorem errorX17_any (n : Int) (h0 : -9223372036854775808 ≤ n) (h1 : n ≤ 9223372036854775807) (w : World) (ht : Lib.TabIs Tryd.prog w "internal/strconv.uint64pow10" .u64 Lib.pow10Tab) :
    Calls Tryd.prog 13 #[.int .i64 n] w fun e w' => e = .returned (.string (errT n)) ∧ Below w.heap.size w w' := by
  by_cases c11 : n = 11
  · subst c11
    go_enter Tryd.func13, Tryd.ntmps13
    go_wp2
    go_ret
    exact ⟨by kernel_rfl, Below.refl _ _⟩
  by_cases c92 : n = 92
  · subst c92
    go_enter Tryd.func13, Tryd.ntmps13
    go_wp2
    go_ret
    exact ⟨by kernel_rfl, Below.refl _ _⟩
  by_cases c111 : n = 111
  · subst c111
    go_enter Tryd.func13, Tryd.ntmps13
    go_wp2
    go_ret
    exact ⟨by kernel_rfl, Below.refl _ _⟩
  by_cases c12 : n = 12
  · subst c12
    go_enter Tryd.func13, Tryd.ntmps13
    go_wp2
    go_ret
    exact ⟨by kernel_rfl, Below.refl _ _⟩
  by_cases c93 : n = 93
  · subst c93
    go_enter Tryd.func13, Tryd.ntmps13
    go_wp2
    go_ret
    exact ⟨by kernel_rfl, Below.refl _ _⟩
  by_cases c21 : n = 21
  · subst c21
    go_enter Tryd.func13, Tryd.ntmps13
    go_wp2
    go_ret
    exact ⟨by kernel_rfl, Below.refl _ _⟩
  by_cases c91 : n = 91
  · subst c91
    go_enter Tryd.func13, Tryd.ntmps13
    go_wp2
    go_ret
    exact ⟨by kernel_rfl, Below.refl _ _⟩
  by_cases c94 : n = 94
  · subst c94
    go_enter Tryd.func13, Tryd.ntmps13
    go_wp2
    go_ret
    exact ⟨by kernel_rfl, Below.refl _ _⟩
  by_cases c31 : n = 31
  · subst c31
    go_enter Tryd.func13, Tryd.ntmps13
    go_wp2
    go_ret
    exact ⟨by kernel_rfl, Below.refl _ _⟩
  by_cases c121 : n = 121
  · subst c121
    go_enter Tryd.func13, Tryd.ntmps13
    go_wp2
    go_ret
    exact ⟨by kernel_rfl, Below.refl _ _⟩
  by_cases c131 : n = 131
  · subst c131
    go_enter Tryd.func13, Tryd.ntmps13
    go_wp2
    go_ret
    exact ⟨by kernel_rfl, Below.refl _ _⟩
  by_cases c132 : n = 132
  · subst c132
    go_enter Tryd.func13, Tryd.ntmps13
    go_wp2
    go_ret
    exact ⟨by kernel_rfl, Below.refl _ _⟩
  by_cases c161 : n = 161
  · subst c161
    go_enter Tryd.func13, Tryd.ntmps13
    go_wp2
    go_ret
    exact ⟨by kernel_rfl, Below.refl _ _⟩
  by_cases c61 : n = 61
  · subst c61
    go_enter Tryd.func13, Tryd.ntmps13
    go_wp2
    go_ret
    exact ⟨by kernel_rfl, Below.refl _ _⟩
  have hdef : errT n = (⟨#[69, 82, 82, 32]⟩ : ByteArray) ++ itoaB n := by
    rw [errT, if_neg (by omega), if_neg (by omega), if_neg (by omega), if_neg (by omega), if_neg (by omega), if_neg (by omega), if_neg (by omega), if_neg (by omega), if_neg (by omega), if_neg (by omega), if_neg (by omega)]
  have hlen := Lib.itoa_length_le n h0 h1
  have hll : ¬ 9223372036854775807 < 4 + (Lib.itoa n).length := by omega
  replace hdef := Lib.hid hdef
  go_enter Tryd.func13, Tryd.ntmps13
  go_wp2_with fail
  refine (text17_any n h0 h1 w ht).mono ?_
  rintro e w' ⟨rfl, hb⟩
  go_wp2
  go_ret
  exact ⟨by rw [hdef.out]; rfl, hb⟩
set_option maxRecDepth 100000 in
set_option maxHeartbeats 6400000 in
theorem refError_any (n : Int) (h0 : -9223372036854775808 ≤ n) (h1 : n ≤ 9223372036854775807) (w : World) :
    Calls Tryd.prog 21 #[.int .i64 n] w fun e w' => e = .returned (.string (errT n)) ∧ Below w.heap.size w w' := by
  by_cases c11 : n = 11
  · subst c11
    go_enter Tryd.func21, Tryd.ntmps21
    go_wp2
    go_ret
    exact ⟨by kernel_rfl, Below.refl _ _⟩
  by_cases c92 : n = 92
  · subst c92
    go_enter Tryd.func21, Tryd.ntmps21
    go_wp2
    go_ret
    exact ⟨by kernel_rfl, Below.refl _ _⟩
  by_cases c111 : n = 111
  · subst c111
    go_enter Tryd.func21, Tryd.ntmps21
    go_wp2
    go_ret
    exact ⟨by kernel_rfl, Below.refl _ _⟩
  by_cases c12 : n = 12
  · subst c12
    go_enter Tryd.func21, Tryd.ntmps21
    go_wp2
    go_ret
    exact ⟨by kernel_rfl, Below.refl _ _⟩
  by_cases c93 : n = 93
  · subst c93
    go_enter Tryd.func21, Tryd.ntmps21
    go_wp2
    go_ret
    exact ⟨by kernel_rfl, Below.refl _ _⟩
  by_cases c21 : n = 21
  · subst c21
    go_enter Tryd.func21, Tryd.ntmps21
    go_wp2
    go_ret
    exact ⟨by kernel_rfl, Below.refl _ _⟩
  by_cases c91 : n = 91
  · subst c91
    go_enter Tryd.func21, Tryd.ntmps21
    go_wp2
    go_ret
    exact ⟨by kernel_rfl, Below.refl _ _⟩
  by_cases c94 : n = 94
  · subst c94
    go_enter Tryd.func21, Tryd.ntmps21
    go_wp2
    go_ret
    exact ⟨by kernel_rfl, Below.refl _ _⟩
  by_cases c31 : n = 31
  · subst c31
    go_enter Tryd.func21, Tryd.ntmps21
    go_wp2
    go_ret
    exact ⟨by kernel_rfl, Below.refl _ _⟩
  by_cases c121 : n = 121
  · subst c121
    go_enter Tryd.func21, Tryd.ntmps21
    go_wp2
    go_ret
    exact ⟨by kernel_rfl, Below.refl _ _⟩
  by_cases c131 : n = 131
  · subst c131
    go_enter Tryd.func21, Tryd.ntmps21
    go_wp2
    go_ret
    exact ⟨by kernel_rfl, Below.refl _ _⟩
  by_cases c132 : n = 132
  · subst c132
    go_enter Tryd.func21, Tryd.ntmps21
    go_wp2
    go_ret
    exact ⟨by kernel_rfl, Below.refl _ _⟩
  by_cases c161 : n = 161
  · subst c161
    go_enter Tryd.func21, Tryd.ntmps21
    go_wp2
    go_ret
    exact ⟨by kernel_rfl, Below.refl _ _⟩
  by_cases c61 : n = 61
  · subst c61
    go_enter Tryd.func21, Tryd.ntmps21
    go_wp2
    go_ret
    exact ⟨by kernel_rfl, Below.refl _ _⟩
  have hdef : errT n = (⟨#[69, 82, 82, 32]⟩ : ByteArray) ++ itoaB n := by
    rw [errT, if_neg (by omega), if_neg (by omega), if_neg (by omega), if_neg (by omega), if_neg (by omega), if_neg (by omega), if_neg (by omega), if_neg (by omega), if_neg (by omega), if_neg (by omega), if_neg (by omega)]
  have hlen := Lib.itoa_length_le n h0 h1
  have hsz : (itoaB n).size = (Lib.itoa n).length := by rw [itoaB]; show (Lib.itoa n).toArray.size = _; simp
  have hll : ¬ 9223372036854775807 < 4 + (itoaB n).size := by omega
  clear hsz
  replace hdef := Lib.hid hdef
  go_enter Tryd.func21, Tryd.ntmps21
  go_wp2_with fail
  refine (text01_any n h0 h1 w).mono ?_
  rintro e w' ⟨rfl, hb⟩
  go_wp2
  go_ret
  exact ⟨by rw [hdef.out]; rfl, hb⟩
end Go.Proofs.YtdhojdkeidilfaaDoor
