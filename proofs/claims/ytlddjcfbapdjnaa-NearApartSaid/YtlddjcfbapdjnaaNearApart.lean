/- NearApart returns true at every input, and leaves the input as it was: the statement NearApartSaid, with no condition of its own. -/
import Derived.Test.YtlddjcfbapdjnaaRows
import Derived.Test.YtlddjcfbapdjnaaApart
import Derived.Test.YtlddjcfbapdjnaaOpenV
namespace Go.Proofs.Ytlddjcfbapdjnaa.lawNearApart
open Go.ChangeShapes Go.WideShapes Go.ChangeAt Go.RowKit
open Go.ChangeMaps (open_string shut_string)
theorem walk {H : Type} {enc : TypeId × Value → H} (W : World) (base : Nat) (args : Array Value) (ds : List (DataW H)) (p : List MemPlace)
    (hval : ∀ (j : Nat) t v, Try.f6.params[j]? = some t → args[j]? = some v → Value.okWide Try.prog W .any base t v)
    (hA : DataW.TrodAll enc Try.prog W 0 (fun _ => true) true Try.f6.params.toList args.toList ds p) :
    Calls Try.prog 6 args W fun e W' => e = .returned (.bool true) ∧ Below W.heap.size W W' := by
  rw [Try.params6] at hA hval
  obtain ⟨v0, vs0, d0, ds0, p0, q0, hargs, rfl, rfl, h0, r0⟩ := trodAll_cons hA
  obtain ⟨rfl, rfl, rfl⟩ := trodAll_nil r0
  obtain rfl : args = #[v0] := by cases args; simp_all
  obtain ⟨cs, rfl, _⟩ := okWide_struct Try.underlying44 (hval 0 44 v0 rfl rfl)
  obtain ⟨fuel, hf⟩ := h0
  obtain ⟨v, a, cap, hcs, hv, hnil, _⟩ := open_valueA fuel _ _ hf
  have hcs' : cs = #[.int .i64 v.kind, .string v.text, .int .i64 v.int, .float .f64 v.real, .bool v.flag, .slice a v.list.length cap] := by
    have : cs.toList = cells6 v.kind v.text v.int v.real v.flag a v.list.length cap := hcs
    exact Array.toList_inj.1 (this.trans (by rw [← cells6_array]))
  subst hcs'
  rw [hcs] at hv
  exact apart23_any hv hnil
end Go.Proofs.Ytlddjcfbapdjnaa.lawNearApart
namespace Go.Proofs.Ytlddjcfbapdjnaa.lawNearApart
open Go.ChangeShapes Go.WideShapes Go.ChangeAt Go.RowKit
open Go.ChangeMaps (open_string shut_string)

theorem own : ownKnob Try.prog.godebug = none := by kernel_rfl
theorem laidOut : laidOutB Try.prog = true := by kernel_rfl
theorem argsOk : (Try.f6.params.toList.all fun t => Try.prog.readableRec t && decide (t < Try.prog.types.size)) = true := by kernel_rfl

set_option maxRecDepth 100000 in
theorem lifted (os : Os) (started : os.Started) (H : Type) (enc : TypeId × Value → H) :
    ReturnsInHanded {} Try.checked os 6 .any (Rows.nearApartSpec.pre6 enc Try.prog Try.f6 Rows.nearApartRow.domain false) (Rows.nearApartSpec.post enc Try.prog Try.f6 false true false false) := by
  refine returnsInHanded_of_change (C := Try.checked) own started (by kernel_rfl) Try.func6
    (ChangeSpec.witness6 (enc := enc) (C := Try.checked) false ⟨#[], #[.agg #[.int .i64 0, .string ⟨#[]⟩, .int .i64 0, .float .f64 0, .bool false, .slice none 0 0]], []⟩ 8 (by kernel_rfl) (by kernel_rfl) (by kernel_rfl) (by kernel_rfl)) ?_
  intro W base args ds gs before hval0 hW hcnd _
  have hval : ∀ (j : Nat) t v, Try.f6.params[j]? = some t → args[j]? = some v → Value.okWide Try.prog W .any base t v := hval0
  have hW' := hW
  obtain ⟨p, q, hA0, hV, rfl, hfz, hnd⟩ := hW
  have hA : DataW.TrodAll enc Try.prog W 0 (fun _ => true) true Try.f6.params.toList args.toList ds p := hA0
  obtain ⟨rfl, rfl⟩ := trodVars_none hV
  clear hA0 hval0
  refine (walk W base args ds p hval hA).mono fun e W' ⟨he, bel⟩ => ?_
  subst he
  have hargs : (Rows.nearApartSpec.fn H (ds ++ [])).results = [.lit (.bool true)] ∧ (Rows.nearApartSpec.fn H (ds ++ [])).args = ds ∧ (Rows.nearApartSpec.fn H (ds ++ [])).vars = [] := by
    rw [Try.params6] at hA
    obtain ⟨v0, vs0, d0, ds0, p0, q0, hargs, rfl, rfl, h0, r0⟩ := trodAll_cons hA
    obtain ⟨rfl, rfl, rfl⟩ := trodAll_nil r0
    exact ⟨rfl, rfl, rfl⟩
  obtain ⟨hr1, hr2, hr3⟩ := hargs
  refine ⟨_, rfl, ds, [], _, [], p, [], hW', ?_, ?_, by rw [hr3]; rfl, bel.frame _, fun h => by cases h⟩
  · rw [hr1]; exact trodAll_mk1 (shut_bool Try.underlying4 _)
  · rw [hr2]; exact trodAll_below laidOut bel argsOk hA

theorem over : Rows.nearApartRow.holds Try.pinned (OpenSpec.ofChange Rows.nearApartSpec) :=
  OpenClaim.holds_of_wide 6 Try.f6 rfl rfl rfl rfl rfl rfl rfl ⟨rfl, rfl, rfl, rfl, rfl⟩ rfl rfl rfl rfl rfl (by kernel_rfl) Try.func6 (by kernel_rfl)
    (of_decide_eq_true (by kernel_rfl)) (by unfold Func.isWrapper; first | (rw [if_pos (by decide +kernel)]; kernel_rfl) | (rw [if_neg (by decide +kernel)]; exact ⟨rfl, rfl⟩))
    (fun os started H enc _ => lifted os started H enc)

theorem proved : Rows.NearApartSaid := over
#print axioms proved
end Go.Proofs.Ytlddjcfbapdjnaa.lawNearApart
