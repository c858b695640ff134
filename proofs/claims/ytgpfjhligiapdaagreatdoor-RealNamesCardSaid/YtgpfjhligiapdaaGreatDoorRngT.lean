/- The error of what is out of range, as it is laid at the start. -/
import Derived.Test.YtgpfjhligiapdaaGreatDoorRNamW
import Derived.Test.YtgpfjhligiapdaaGreatDoorOpen
import Derived.Stop.LaidErr
namespace Go.Proofs.YtgpfjhligiapdaaGreatDoor
open Go.ChangeShapes Go.WideShapes Go.ChangeAt Go.RowKit

theorem star_err : "*" ++ "errors.errorString" = "*errors.errorString" := by decide
theorem row_err (u : TypeId) (h : Tryz.prog.typeName? 3 u = some "*errors.errorString") : u = 124 :=
  typeName_ptr_named (nm := "errors.errorString") (by rw [star_err]; kernel_rfl) (by kernel_rfl) (by decide) u (by rw [star_err]; exact h)
theorem glob_rng : Tryz.prog.globalNamed "strconv.ErrRange" = some 2 := by kernel_rfl
theorem rng_of {W : World} {laid : List (String × DataW Unit)} (h0 : laidMetH Tryz.prog laid W) (hp : (laid.all fun x => x.2.handleName?.isNone) = true)
    (e3 : laid.filter (fun x => x.1 == "strconv.ErrRange") = [("strconv.ErrRange", .iface "*errors.errorString" (.ptr (.agg [.lit (.string [118, 97, 108, 117, 101, 32, 111, 117, 116, 32, 111, 102, 32, 114, 97, 110, 103, 101])])))]) : Rng W := by
  rw [MakeChecks.laidMetH_plain _ _ _ hp] at h0
  have h3 := h0.filter (fun x => x.1 == "strconv.ErrRange")
  rw [e3] at h3
  obtain ⟨a, s, hv, _⟩ := laid_sentinel (g := 2) (ti := 44) (tp := 124) (te := 126) h3 glob_rng (by kernel_rfl) Tryz.underlying44 row_err Tryz.underlying124 Tryz.underlying126 rfl rfl Tryz.underlying9 (by kernel_rfl) (by kernel_rfl)
  exact ⟨_, _, (World.var?_cell glob_rng hv 0).trans rfl⟩
end Go.Proofs.YtgpfjhligiapdaaGreatDoor
