/- ValueSame returns true at every input, and leaves the input as it was: the card ValueSameCardSaid, with no condition of its own. -/
import Derived.Test.YtapiinfnedhmoaaDoorCards
import Derived.Test.YtapiinfnedhmoaaDoorTie
import Derived.Test.YtapiinfnedhmoaaDoorOpenL
import Derived.Test.YtapiinfnedhmoaaDoorOpenW
import Derived.Test.YtapiinfnedhmoaaDoorSameL
import Derived.ProofKit
import Derived.OpenShut
import Derived.LaidMore
import Derived.Lay
import Derived.SevenTiedAt
import Derived.Stop.Joined
import Derived.SizedLaws
namespace Go.Proofs.YtapiinfnedhmoaaDoor.lawValueSame
open Go.ChangeShapes Go.WideShapes Go.ChangeAt Go.RowKit
open Go.ChangeMaps (open_string shut_string)
set_option maxRecDepth 100000 in
theorem walk {H : Type} {enc : TypeId × Value → H} (W : World) (base : Nat) (args : Array Value) (ds : List (DataW H)) (p : List MemPlace)
    (hval : ∀ (j : Nat) t v, Tryd.f7.params[j]? = some t → args[j]? = some v → Value.okWide Tryd.prog W .any base t v)
    (hA : DataW.TrodAll enc Tryd.prog W 0 (fun _ => true) true Tryd.f7.params.toList args.toList ds p) (hL : laidMetH Tryd.prog Rows.valueSameRow.laid W)
    (hR : (DataW.weightsEach Tryd.prog (Tryd.f7.params.toList ++ Rows.valueSameSpec.plain.varTypes Tryd.prog) (ds ++ [])).all (· ≤ reachBytes) = true) :
    Calls Tryd.prog 7 args W fun e W' => e = .returned (.bool true) ∧ Below W.heap.size W W' := by
  clear hL
  rw [Tryd.params7] at hA hval hR
  obtain ⟨v0, vs0, d0, ds0, p0, q0, hargs, rfl, rfl, h0, r0⟩ := trodAll_cons hA
  obtain ⟨v1, vs1, d1, ds1, p1, q1, rfl, rfl, rfl, h1, r1⟩ := trodAll_cons r0
  obtain ⟨v2, vs2, d2, ds2, p2, q2, rfl, rfl, rfl, h2, r2⟩ := trodAll_cons r1
  obtain ⟨rfl, rfl, rfl⟩ := trodAll_nil r2
  obtain rfl : args = #[v0, v1, v2] := by cases args; simp_all
  obtain ⟨cs, rfl, _⟩ := okWide_struct Tryd.underlying25 (hval 0 25 v0 rfl rfl)
  obtain ⟨cs', rfl, _⟩ := okWide_struct Tryd.underlying25 (hval 1 25 v1 rfl rfl)
  obtain ⟨s2, rfl, rfl, rfl, hs2⟩ := open_string Tryd.underlying9 (hval 2 9 v2 rfl rfl) h2
  obtain ⟨fuel, hf⟩ := h0
  obtain ⟨fuel', hf'⟩ := h1
  obtain ⟨u, a, cap, hcs, hu, hun⟩ := open_valueW fuel _ _ hf (fun n hn => by
    have := List.all_eq_true.1 hR _ (DataW.weights_mem_each (j := 0) rfl rfl n hn)
    simpa using this)
  obtain ⟨v, a', cap', hcs', hv, hvn⟩ := open_valueW fuel' _ _ hf' (fun n hn => by
    have := List.all_eq_true.1 hR _ (DataW.weights_mem_each (j := 1) rfl rfl n hn)
    simpa using this)
  have hs : s2.size ≤ reachBytes := by
    have := List.all_eq_true.1 hR s2.data.toList.length (DataW.weights_mem_each (j := 2) rfl rfl _ (by simp [DataW.weights]))
    rw [Array.length_toList] at this
    simpa using this
  obtain rfl : cs = #[.int .i64 u.kind, .string u.text, .int .i64 u.int, .float .f64 u.real, .bool u.flag, .slice a u.list.length cap] := by
    have : cs.toList = cells6 u.kind u.text u.int u.real u.flag a u.list.length cap := hcs
    exact Array.toList_inj.1 (this.trans (by rw [← cells6_array]))
  obtain rfl : cs' = #[.int .i64 v.kind, .string v.text, .int .i64 v.int, .float .f64 v.real, .bool v.flag, .slice a' v.list.length cap'] := by
    have : cs'.toList = cells6 v.kind v.text v.int v.real v.flag a' v.list.length cap' := hcs'
    exact Array.toList_inj.1 (this.trans (by rw [← cells6_array]))
  rw [hcs] at hu
  rw [hcs'] at hv
  have hr : reachBytes ≤ 140737488355328 := by decide
  exact sameL_any u v a u.list.length cap a' v.list.length cap' s2 W hu hv (fun x hx => Nat.le_trans ((V.near_eq x).1 (V.nearL_mem ((V.near_eq u).1 hun).2 x hx)).1 hr) (Nat.le_trans hs hr)
end Go.Proofs.YtapiinfnedhmoaaDoor.lawValueSame
namespace Go.Proofs.YtapiinfnedhmoaaDoor.lawValueSame
open Go.ChangeShapes Go.WideShapes Go.ChangeAt Go.RowKit

theorem own : ownKnob Tryd.prog.godebug = none := by kernel_rfl
theorem laidOut : laidOutB Tryd.prog = true := by kernel_rfl
theorem argsOk : (Tryd.f7.params.toList.all fun t => Tryd.prog.readableRec t && decide (t < Tryd.prog.types.size)) = true := by kernel_rfl

set_option maxRecDepth 100000 in
theorem lifted (os : Os) (started : os.Started) (H : Type) (enc : TypeId × Value → H) :
    ReturnsInHanded {} Tryd.checked os 7 .any (fun w args => (Rows.valueSameSpec.pre enc Tryd.prog Tryd.f7 Rows.valueSameRow.domain false w args ∧ laidMetH Tryd.prog Rows.valueSameRow.laid w) ∧ sizedMet enc Tryd.prog Tryd.f7 (OpenSpec.ofChange Rows.valueSameSpec) false w args)
      (Rows.valueSameSpec.post enc Tryd.prog Tryd.f7 false true false false) := by
  refine returnsInHanded_of_change_and (C := Tryd.checked) (X := fun w _ => laidMetH Tryd.prog Rows.valueSameRow.laid w) (fun _ _ _ hh h => h.of_heap hh) own started (by kernel_rfl) Tryd.func7
    (ChangeSpec.witness_shaped (enc := enc) (C := Tryd.checked) (os := os) (X := fun w _ => laidMetH Tryd.prog Rows.valueSameRow.laid w) false (World.laidAll Tryd.prog os Rows.valueSameRow.laid) #[.agg #[.int .i64 0, .string ⟨#[]⟩, .int .i64 0, .float .f64 0, .bool false, .slice none 0 0], .agg #[.int .i64 0, .string ⟨#[]⟩, .int .i64 0, .float .f64 0, .bool false, .slice none 0 0], .string ByteArray.empty] 8 (World.laidAll_os _ _ _)
      (World.shaped_of_ZipB (by kernel_rfl) (by kernel_rfl)) (by kernel_rfl) (by kernel_rfl) (by kernel_rfl)
      (by rw [MakeChecks.laidMetH_plain _ _ _ (by kernel_rfl)]; exact laidMet_laidAll _ (by kernel_rfl) (by kernel_rfl))) ?_
  intro W base args ds gs before hval0 hW hc hR hL _
  have hval : ∀ (j : Nat) t v, Tryd.f7.params[j]? = some t → args[j]? = some v → Value.okWide Tryd.prog W .any base t v := hval0
  have hW' := hW
  obtain ⟨p, q, hA0, hV, rfl, hfz, hnd⟩ := hW
  have hA : DataW.TrodAll enc Tryd.prog W 0 (fun _ => true) true Tryd.f7.params.toList args.toList ds p := hA0
  obtain ⟨rfl, rfl⟩ := trodVars_none hV
  clear hA0 hval0
  refine (walk W base args ds p hval hA hL hR).mono fun e W' ⟨he, bel⟩ => ?_
  subst he
  have hargs : (Rows.valueSameSpec.fn H (ds ++ [])).results = [.lit (.bool true)] ∧ (Rows.valueSameSpec.fn H (ds ++ [])).args = ds ∧ (Rows.valueSameSpec.fn H (ds ++ [])).vars = [] := by
    rw [Tryd.params7] at hA
    obtain ⟨v0, vs0, d0, ds0, p0, q0, hargs, rfl, rfl, h0, r0⟩ := trodAll_cons hA
    obtain ⟨v1, vs1, d1, ds1, p1, q1, rfl, rfl, rfl, h1, r1⟩ := trodAll_cons r0
    obtain ⟨v2, vs2, d2, ds2, p2, q2, rfl, rfl, rfl, h2, r2⟩ := trodAll_cons r1
    obtain ⟨rfl, rfl, rfl⟩ := trodAll_nil r2
    exact ⟨rfl, rfl, rfl⟩
  obtain ⟨hr1, hr2, hr3⟩ := hargs
  refine ⟨_, rfl, ds, [], _, [], p, [], hW', ?_, ?_, by rw [hr3]; rfl, bel.frame _, fun h => by cases h⟩
  · rw [hr1]; exact trodAll_mk1 (shut_bool Tryd.underlying4 _)
  · rw [hr2]; exact trodAll_below laidOut bel argsOk hA

theorem holds : Rows.ValueSameSaid :=
  OpenClaim.holds_of_wide 7 Tryd.f7 rfl rfl rfl rfl rfl rfl rfl ⟨rfl, rfl, rfl, rfl, rfl⟩ rfl rfl rfl rfl rfl (by kernel_rfl) Tryd.func7 (by kernel_rfl)
    (of_decide_eq_true (by kernel_rfl)) (by unfold Func.isWrapper; first | (rw [if_pos (by decide +kernel)]; kernel_rfl) | (rw [if_neg (by decide +kernel)]; exact ⟨rfl, rfl⟩))
    (fun os started H enc _ => lifted os started H enc)
theorem proved : Rows.ValueSameCardSaid :=
  Claim7.holds_tied_plain_at .later [] [.data, .pinned] true Rows.valueSameCard.stood.harness false holds (fun _ h => by cases h) (by kernel_rfl) (fun _ h => by cases h) valueSame_row_tie rfl ⟨rfl, rfl⟩ (by kernel_rfl) rfl
    (fun f fn hf hfn => by
      obtain rfl : f = 7 := Option.some.inj ((show Tryd.prog.funcNamed "nearhand/nearhandlaw03.ValueSame" = some 7 by kernel_rfl).symm.trans hf) |>.symm
      obtain rfl : fn = Tryd.f7 := (Option.some.inj (Tryd.func7.symm.trans hfn)).symm
      exact ⟨by kernel_rfl, fun j t ht => by
        rw [Tryd.params7] at ht
        have hm : t ∈ ([25, 25, 9] : List TypeId) := by simpa using Array.mem_of_getElem? ht
        have hall : (([25, 25, 9] : List TypeId).all fun u => !Tryd.prog.wantsStandIn u) = true := by kernel_rfl
        exact (show Tryd.prog.wantsStandIn t = false by simpa using List.all_eq_true.1 hall t hm)⟩)
    (by kernel_rfl)
#print axioms proved
end Go.Proofs.YtapiinfnedhmoaaDoor.lawValueSame
