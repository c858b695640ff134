/- ItemFields returns true at every input, and leaves the input as it was: the card ItemFieldsCardSaid, with no condition of its own. -/
import Derived.Test.YteoalcmhdoopnaaDoorCards
import Derived.Test.YteoalcmhdoopnaaDoorTie
import Derived.Test.YteoalcmhdoopnaaDoorItOpen
import Derived.Test.YteoalcmhdoopnaaDoorItFldL
import Derived.SevenTiedAt
import Derived.Stop.Joined
import Derived.SizedLaws
namespace Go.Proofs.YteoalcmhdoopnaaDoor.lawItemFields
open Go.ChangeShapes Go.WideShapes Go.ChangeAt Go.RowKit
open Go.ChangeMaps (open_string shut_string)
set_option maxRecDepth 100000 in
theorem walk {H : Type} {enc : TypeId × Value → H} (W : World) (base : Nat) (args : Array Value) (ds : List (DataW H)) (p : List MemPlace)
    (hval : ∀ (j : Nat) t v, Tryd.f5.params[j]? = some t → args[j]? = some v → Value.okWide Tryd.prog W .any base t v)
    (hA : DataW.TrodAll enc Tryd.prog W 0 (fun _ => true) true Tryd.f5.params.toList args.toList ds p) (hL : laidMetH Tryd.prog Rows.itemFieldsRow.laid W)
    (hR : (DataW.weightsEach Tryd.prog (Tryd.f5.params.toList ++ Rows.itemFieldsSpec.plain.varTypes Tryd.prog) (ds ++ [])).all (· ≤ reachBytes) = true) :
    Calls Tryd.prog 5 args W fun e W' => e = .returned (.bool true) ∧ Below W.heap.size W W' := by
  clear hR
  have hN : Nums W := nums_of hL (by kernel_rfl) (by kernel_rfl) (by kernel_rfl) (by kernel_rfl)
  rw [Tryd.params5] at hA hval
  obtain ⟨v0, vs0, d0, ds0, p0, q0, hargs, rfl, rfl, h0, r0⟩ := trodAll_cons hA
  obtain ⟨rfl, rfl, rfl⟩ := trodAll_nil r0
  obtain rfl : args = #[v0] := by cases args; simp_all
  obtain ⟨a, n, cap, rfl⟩ := okWide_slice Tryd.underlying22 (hval 0 22 v0 rfl rfl)
  obtain ⟨fuel, hf⟩ := h0
  obtain ⟨l, hr⟩ := open_fields hf
  exact R2.fieldsL_any a n cap l W hr hN
end Go.Proofs.YteoalcmhdoopnaaDoor.lawItemFields
namespace Go.Proofs.YteoalcmhdoopnaaDoor.lawItemFields
open Go.ChangeShapes Go.WideShapes Go.ChangeAt Go.RowKit

theorem own : ownKnob Tryd.prog.godebug = none := by kernel_rfl
theorem laidOut : laidOutB Tryd.prog = true := by kernel_rfl
theorem argsOk : (Tryd.f5.params.toList.all fun t => Tryd.prog.readableRec t && decide (t < Tryd.prog.types.size)) = true := by kernel_rfl

set_option maxRecDepth 100000 in
theorem lifted (os : Os) (started : os.Started) (H : Type) (enc : TypeId × Value → H) :
    ReturnsInHanded {} Tryd.checked os 5 .any (fun w args => (Rows.itemFieldsSpec.pre enc Tryd.prog Tryd.f5 Rows.itemFieldsRow.domain false w args ∧ laidMetH Tryd.prog Rows.itemFieldsRow.laid w) ∧ sizedMet enc Tryd.prog Tryd.f5 (OpenSpec.ofChange Rows.itemFieldsSpec) false w args)
      (Rows.itemFieldsSpec.post enc Tryd.prog Tryd.f5 false true false false) := by
  refine returnsInHanded_of_change_and (C := Tryd.checked) (X := fun w _ => laidMetH Tryd.prog Rows.itemFieldsRow.laid w) (fun _ _ _ hh h => h.of_heap hh) own started (by kernel_rfl) Tryd.func5
    (ChangeSpec.witness_shaped (enc := enc) (C := Tryd.checked) (os := os) (X := fun w _ => laidMetH Tryd.prog Rows.itemFieldsRow.laid w) false (World.laidAll Tryd.prog os Rows.itemFieldsRow.laid) #[.slice none 0 0] 8 (World.laidAll_os _ _ _)
      (World.shaped_of_ZipB (by kernel_rfl) (by kernel_rfl)) (by kernel_rfl) (by kernel_rfl) (by kernel_rfl)
      (by rw [MakeChecks.laidMetH_plain _ _ _ (by kernel_rfl)]; exact laidMet_laidAll _ (by kernel_rfl) (by kernel_rfl))) ?_
  intro W base args ds gs before hval0 hW hc hR hL _
  have hval : ∀ (j : Nat) t v, Tryd.f5.params[j]? = some t → args[j]? = some v → Value.okWide Tryd.prog W .any base t v := hval0
  have hW' := hW
  obtain ⟨p, q, hA0, hV, rfl, hfz, hnd⟩ := hW
  have hA : DataW.TrodAll enc Tryd.prog W 0 (fun _ => true) true Tryd.f5.params.toList args.toList ds p := hA0
  obtain ⟨rfl, rfl⟩ := trodVars_none hV
  clear hA0 hval0
  refine (walk W base args ds p hval hA hL hR).mono fun e W' ⟨he, bel⟩ => ?_
  subst he
  have hargs : (Rows.itemFieldsSpec.fn H (ds ++ [])).results = [.lit (.bool true)] ∧ (Rows.itemFieldsSpec.fn H (ds ++ [])).args = ds ∧ (Rows.itemFieldsSpec.fn H (ds ++ [])).vars = [] := by
    rw [Tryd.params5] at hA
    obtain ⟨v0, vs0, d0, ds0, p0, q0, hargs, rfl, rfl, h0, r0⟩ := trodAll_cons hA
    obtain ⟨rfl, rfl, rfl⟩ := trodAll_nil r0
    exact ⟨rfl, rfl, rfl⟩
  obtain ⟨hr1, hr2, hr3⟩ := hargs
  refine ⟨_, rfl, ds, [], _, [], p, [], hW', ?_, ?_, by rw [hr3]; rfl, bel.frame _, fun h => by cases h⟩
  · rw [hr1]; exact trodAll_mk1 (shut_bool Tryd.underlying4 _)
  · rw [hr2]; exact trodAll_below laidOut bel argsOk hA

theorem holds : Rows.ItemFieldsSaid :=
  OpenClaim.holds_of_wide 5 Tryd.f5 rfl rfl rfl rfl rfl rfl rfl ⟨rfl, rfl, rfl, rfl, rfl⟩ rfl rfl rfl rfl rfl (by kernel_rfl) Tryd.func5 (by kernel_rfl)
    (of_decide_eq_true (by kernel_rfl)) (by unfold Func.isWrapper; first | (rw [if_pos (by decide +kernel)]; kernel_rfl) | (rw [if_neg (by decide +kernel)]; exact ⟨rfl, rfl⟩))
    (fun os started H enc _ => lifted os started H enc)
theorem proved : Rows.ItemFieldsCardSaid :=
  Claim7.holds_tied_plain_at .later [] [.data, .data, .data, .sentinel, .sentinel] true Rows.itemFieldsCard.stood.harness true holds (fun _ h => by cases h) (by kernel_rfl) (fun _ h => by cases h) itemFields_row_tie rfl ⟨rfl, rfl⟩ (by kernel_rfl) rfl
    (fun f fn hf hfn => by
      obtain rfl : f = 5 := Option.some.inj ((show Tryd.prog.funcNamed "nearhand/nearhandlaw09.ItemFields" = some 5 by kernel_rfl).symm.trans hf) |>.symm
      obtain rfl : fn = Tryd.f5 := (Option.some.inj (Tryd.func5.symm.trans hfn)).symm
      exact ⟨by kernel_rfl, fun j t ht => by
        rw [Tryd.params5] at ht
        have hm : t ∈ ([22] : List TypeId) := by simpa using Array.mem_of_getElem? ht
        have hall : (([22] : List TypeId).all fun u => !Tryd.prog.wantsStandIn u) = true := by kernel_rfl
        exact (show Tryd.prog.wantsStandIn t = false by simpa using List.all_eq_true.1 hall t hm)⟩)
    (by kernel_rfl)
#print axioms proved
end Go.Proofs.YteoalcmhdoopnaaDoor.lawItemFields
