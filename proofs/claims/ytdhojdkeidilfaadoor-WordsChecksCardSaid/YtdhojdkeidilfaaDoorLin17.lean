/- The table of nearhandref17 as lines, and what they say. -/
import Derived.Test.YtdhojdkeidilfaaDoorUp17
namespace Go.Proofs.YtdhojdkeidilfaaDoor
open Go.RowKit

def lines17 : List ByteArray := [
  ⟨#[103, 101, 116, 32, 49, 32, 50, 32, 50, 32, 49, 32, 49, 32, 49]⟩,
  ⟨#[115, 101, 116, 32, 50, 32, 51, 32, 54, 52, 32, 49, 32, 49, 32, 49]⟩,
  ⟨#[115, 101, 116, 110, 120, 32, 50, 32, 51, 32, 51, 32, 49, 32, 49, 32, 49]⟩,
  ⟨#[103, 101, 116, 115, 101, 116, 32, 50, 32, 51, 32, 51, 32, 49, 32, 49, 32, 49]⟩,
  ⟨#[103, 101, 116, 100, 101, 108, 32, 50, 32, 50, 32, 50, 32, 49, 32, 49, 32, 49]⟩,
  ⟨#[109, 103, 101, 116, 32, 49, 32, 50, 32, 54, 52, 32, 49, 32, 45, 49, 32, 49]⟩,
  ⟨#[109, 115, 101, 116, 32, 50, 32, 51, 32, 54, 52, 32, 49, 32, 45, 49, 32, 50]⟩,
  ⟨#[105, 110, 99, 114, 32, 50, 32, 50, 32, 50, 32, 49, 32, 49, 32, 49]⟩,
  ⟨#[100, 101, 99, 114, 32, 50, 32, 50, 32, 50, 32, 49, 32, 49, 32, 49]⟩,
  ⟨#[105, 110, 99, 114, 98, 121, 32, 50, 32, 51, 32, 51, 32, 49, 32, 49, 32, 49]⟩,
  ⟨#[100, 101, 99, 114, 98, 121, 32, 50, 32, 51, 32, 51, 32, 49, 32, 49, 32, 49]⟩,
  ⟨#[105, 110, 99, 114, 98, 121, 102, 108, 111, 97, 116, 32, 50, 32, 51, 32, 51, 32, 49, 32, 49, 32, 49]⟩,
  ⟨#[97, 112, 112, 101, 110, 100, 32, 50, 32, 51, 32, 51, 32, 49, 32, 49, 32, 49]⟩,
  ⟨#[115, 116, 114, 108, 101, 110, 32, 49, 32, 50, 32, 50, 32, 49, 32, 49, 32, 49]⟩,
  ⟨#[104, 115, 101, 116, 32, 50, 32, 52, 32, 54, 52, 32, 49, 32, 49, 32, 49]⟩,
  ⟨#[104, 103, 101, 116, 32, 49, 32, 51, 32, 51, 32, 49, 32, 49, 32, 49]⟩,
  ⟨#[104, 100, 101, 108, 32, 50, 32, 51, 32, 54, 52, 32, 49, 32, 49, 32, 49]⟩,
  ⟨#[104, 103, 101, 116, 97, 108, 108, 32, 49, 32, 50, 32, 50, 32, 49, 32, 49, 32, 49]⟩,
  ⟨#[104, 108, 101, 110, 32, 49, 32, 50, 32, 50, 32, 49, 32, 49, 32, 49]⟩,
  ⟨#[104, 101, 120, 105, 115, 116, 115, 32, 49, 32, 51, 32, 51, 32, 49, 32, 49, 32, 49]⟩,
  ⟨#[104, 109, 103, 101, 116, 32, 49, 32, 51, 32, 54, 52, 32, 49, 32, 49, 32, 49]⟩,
  ⟨#[104, 105, 110, 99, 114, 98, 121, 32, 50, 32, 52, 32, 52, 32, 49, 32, 49, 32, 49]⟩,
  ⟨#[100, 101, 108, 32, 50, 32, 50, 32, 54, 52, 32, 49, 32, 45, 49, 32, 49]⟩,
  ⟨#[117, 110, 108, 105, 110, 107, 32, 50, 32, 50, 32, 54, 52, 32, 49, 32, 45, 49, 32, 49]⟩,
  ⟨#[101, 120, 105, 115, 116, 115, 32, 49, 32, 50, 32, 54, 52, 32, 49, 32, 45, 49, 32, 49]⟩,
  ⟨#[101, 120, 112, 105, 114, 101, 32, 50, 32, 51, 32, 51, 32, 49, 32, 49, 32, 49]⟩,
  ⟨#[112, 101, 120, 112, 105, 114, 101, 32, 50, 32, 51, 32, 51, 32, 49, 32, 49, 32, 49]⟩,
  ⟨#[112, 101, 114, 115, 105, 115, 116, 32, 50, 32, 50, 32, 50, 32, 49, 32, 49, 32, 49]⟩,
  ⟨#[116, 116, 108, 32, 49, 32, 50, 32, 50, 32, 49, 32, 49, 32, 49]⟩,
  ⟨#[112, 116, 116, 108, 32, 49, 32, 50, 32, 50, 32, 49, 32, 49, 32, 49]⟩,
  ⟨#[116, 121, 112, 101, 32, 49, 32, 50, 32, 50, 32, 49, 32, 49, 32, 49]⟩,
  ⟨#[102, 108, 117, 115, 104, 97, 108, 108, 32, 50, 32, 49, 32, 49, 32, 48, 32, 48, 32, 48]⟩,
  ⟨#[100, 98, 115, 105, 122, 101, 32, 49, 32, 49, 32, 49, 32, 48, 32, 48, 32, 48]⟩,
  ⟨#[104, 101, 108, 108, 111, 32, 51, 32, 49, 32, 50, 32, 48, 32, 48, 32, 48]⟩,
  ⟨#[112, 105, 110, 103, 32, 51, 32, 49, 32, 50, 32, 48, 32, 48, 32, 48]⟩,
  ⟨#[101, 99, 104, 111, 32, 51, 32, 50, 32, 50, 32, 48, 32, 48, 32, 48]⟩,
  ⟨#[114, 101, 115, 101, 116, 32, 51, 32, 49, 32, 49, 32, 48, 32, 48, 32, 48]⟩,
  ⟨#[113, 117, 105, 116, 32, 51, 32, 49, 32, 49, 32, 48, 32, 48, 32, 48]⟩,
  ⟨#[99, 108, 105, 101, 110, 116, 32, 51, 32, 50, 32, 54, 52, 32, 48, 32, 48, 32, 48]⟩]

def decN (z : Int) : ByteArray := if z = -1 then ⟨#[45, 49]⟩ else if z = 64 then ⟨#[54, 52]⟩ else ⟨#[UInt8.ofNat (48 + z.toNat)]⟩
def numsOf (x : Spec) : List Int := [x.kind, x.least, x.most, x.first, x.last, x.step]
def specWords (x : Spec) : List ByteArray := lowB x.name :: (numsOf x).map decN
theorem lines_words : lines17.map wordsL = words17.map specWords := by kernel_rfl
theorem lines_len : lines17.length = 39 := rfl
theorem lines_short : ∀ l ∈ lines17, l.size ≤ 64 ∧ ∀ c ∈ l.data.toList, c.toNat ≠ 34 ∧ c.toNat ≠ 39 := by decide
abbrev smallZ : List Int := [-1, 0, 1, 2, 3, 4, 64]
theorem nums_small : ∀ x ∈ words17, ∀ z ∈ numsOf x, z ∈ smallZ := by decide
theorem upper_lower : ∀ x ∈ words17, upB (lowB x.name) = x.name := by decide +kernel
theorem lower_short : ∀ x ∈ words17, (lowB x.name).size ≤ 64 := by decide +kernel
theorem num01_any (z : Int) (hz : z ∈ smallZ) (w : World) : Calls Tryd.prog 25 #[.string (decN z)] w fun e w' => e = .returned (.tuple #[.int .i64 z, .int .i64 0]) ∧ Below w.heap.size w w' := by
  simp only [smallZ, List.mem_cons, List.mem_singleton, List.not_mem_nil, or_false] at hz
  rcases hz with rfl | rfl | rfl | rfl | rfl | rfl | rfl
  · exact parse01_minus ⟨#[45, 49]⟩ ⟨#[49]⟩ (by decide) (by decide) (by decide) (by decide) (by decide) (by decide) (-1) (by decide) w
  · exact parse01_plain ⟨#[48]⟩ (by decide) (by decide) (by decide) (by decide) 0 (by decide) (by decide) w
  · exact parse01_plain ⟨#[49]⟩ (by decide) (by decide) (by decide) (by decide) (-1) (by decide) (by decide) w
  · exact parse01_plain ⟨#[50]⟩ (by decide) (by decide) (by decide) (by decide) (-2) (by decide) (by decide) w
  · exact parse01_plain ⟨#[51]⟩ (by decide) (by decide) (by decide) (by decide) (-3) (by decide) (by decide) w
  · exact parse01_plain ⟨#[52]⟩ (by decide) (by decide) (by decide) (by decide) (-4) (by decide) (by decide) w
  · exact parse01_plain ⟨#[54, 52]⟩ (by decide) (by decide) (by decide) (by decide) (-64) (by decide) (by decide) w
set_option maxRecDepth 100000 in
set_option maxHeartbeats 3200000 in
theorem lines17_any (w : World) : Calls Tryd.prog 23 #[] w fun e w' => e = .returned (.slice (some ⟨w.heap.size, 0, none⟩) 39 39) ∧ w' = w.alloc (.cells (lines17.map Value.string).toArray 9) := by
  go_enter Tryd.func23, Tryd.ntmps23
  go_wp2_with fail
  go_ret
  exact ⟨rfl, rfl⟩
end Go.Proofs.YtdhojdkeidilfaaDoor
