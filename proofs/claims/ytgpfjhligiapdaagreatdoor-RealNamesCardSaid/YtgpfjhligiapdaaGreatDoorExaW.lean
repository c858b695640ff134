/- internal/strconv.atof64exact: its walk. -/
import Derived.Test.YtgpfjhligiapdaaGreatDoorParOf
import Derived.Test.YtgpfjhligiapdaaGreatDoorRIs
namespace Go.Proofs.YtgpfjhligiapdaaGreatDoor
open Go.RowKit

def f10L : List Nat := [4607182418800017408, 4621819117588971520, 4636737291354636288, 4652007308841189376, 4666723172467343360, 4681608360884174848, 4696837146684686336, 4711630319722168320, 4726483295884279808, 4741671816366391296, 4756540486875873280, 4771362005757984768, 4786511204640096256, 4801453603149578240, 4816244402031689728, 4831355200913801216, 4846369599423283200, 4861130398305394688, 4876203697187506176, 4891288408196988160, 4906019910204099648, 4921056587992461136, 4936209963552724370]
/-- What is laid for reading. -/
structure Par (w : World) : Prop where
  opt : w.cell? ⟨3, 0, none⟩ = some (.bool true)
  bits : w.cell? ⟨6, 0, none⟩ = some (.int .u64 52)
  tens : ∃ (b : Addr) (c : Nat), w.cell? ⟨10, 0, none⟩ = some (.slice (some b) 23 c) ∧ ∀ i z, f10L[i]? = some z → w.cell? (b.add i) = some (.float .f64 z)
/-- A whole number with its sign, as a float. -/
def fltN (neg : Bool) (d : Nat) : Nat := if neg then Op.negFloat .f64 (floatOfInt .f64 (d : Int)) else floatOfInt .f64 (d : Int)
set_option maxRecDepth 100000 in
theorem exact_neg {w : World} {d i z r : Nat} {neg : Bool} (hd : d < 4503599627370496) (hi1 : 1 ≤ i) (hi : i ≤ 22) (hz1 : f10L[i]? = some z) (hr : floatBits .quo .f64 (fltN neg d) z = some r) (hP : Par w) :
    Calls Tryz.prog 83 #[.int .u64 (d : Int), .int .i64 (-(i : Int)), .bool neg] w fun e w' => e = .returned (.tuple #[.float .f64 r, .bool true]) ∧ w' = w := by
  obtain ⟨b, c, h1, h2⟩ := hP.tens
  have hb := hP.bits
  have hz : (d : Int) / 4503599627370496 = 0 := by omega
  have hi0 : (i : Int) ≤ 22 := by omega
  have hi2 : (1 : Int) ≤ (i : Int) := by omega
  have h3 := h2 i z hz1
  have hnr := neg_run
  have hi3 : ((-(i : Int)) == 0) = false := by simp; omega
  obtain ⟨F, hF⟩ : ∃ F, floatOfInt .f64 (d : Int) = F := ⟨_, rfl⟩
  obtain ⟨G, hG⟩ : ∃ G, fltN neg d = G := ⟨_, rfl⟩
  have hq := fun w => run_float_arith (P := Tryz.prog) w .quo 23 .f64 G z r (by rw [← hG]; exact hr)
  clear hr
  replace hz1 := Lib.hid hz1
  clear h2
  cases neg
  · obtain rfl : F = G := by rw [← hG, ← hF, fltN, if_neg (by decide)]
    clear hG
    go_enter Tryz.func83, Tryz.ntmps83
    go_wp2
    go_ret2
    exact ⟨rfl, rfl⟩
  · have hFG : Op.negFloat .f64 F = G := by rw [← hG, ← hF, fltN, if_pos rfl]
    have hnF := hnr F
    rw [hFG] at hnF
    clear hG hFG hnr
    go_enter Tryz.func83, Tryz.ntmps83
    go_wp2
    go_ret2
    exact ⟨rfl, rfl⟩
example : floatBits .quo .f64 (fltN false 1) 4621819117588971520 = some 4591870180066957722 := by decide +kernel
end Go.Proofs.YtgpfjhligiapdaaGreatDoor
