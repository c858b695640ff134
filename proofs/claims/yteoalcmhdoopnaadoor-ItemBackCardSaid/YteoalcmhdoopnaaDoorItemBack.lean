/- ItemBack returns true at every input, and leaves the input as it was: the card ItemBackCardSaid, with no condition of its own. -/
import Derived.Test.YteoalcmhdoopnaaDoorCards
import Derived.Test.YteoalcmhdoopnaaDoorTie
import Derived.Test.YteoalcmhdoopnaaDoorItOpen
import Derived.Test.YteoalcmhdoopnaaDoorItBackL
import Derived.SevenTiedAt
import Derived.Stop.Joined
import Derived.SizedLaws
namespace Go.Proofs.YteoalcmhdoopnaaDoor.lawItemBack
open Go.ChangeShapes Go.WideShapes Go.ChangeAt Go.RowKit
open Go.ChangeMaps (open_string shut_string)
set_option maxRecDepth 100000 in
theorem walk {H : Type} {enc : TypeId × Value → H} (W : World) (base : Nat) (args : Array Value) (ds : List (DataW H)) (p : List MemPlace)
    (hval : ∀ (j : Nat) t v, Tryd.f7.params[j]? = some t → args[j]? = some v → Value.okWide Tryd.prog W .any base t v)
    (hA : DataW.TrodAll enc Tryd.prog W 0 (fun _ => true) true Tryd.f7.params.toList args.toList ds p) (hL : laidMetH Tryd.prog Rows.itemBackRow.laid W)
    (hR : (DataW.weightsEach Tryd.prog (Tryd.f7.params.toList ++ Rows.itemBackSpec.plain.varTypes Tryd.prog) (ds ++ [])).all (· ≤ reachBytes) = true) :
    Calls Tryd.prog 7 args W fun e W' => e = .returned (.bool true) ∧ Below W.heap.size W W' := by
  clear hR
  have hN : Nums W := nums_of hL (by kernel_rfl) (by kernel_rfl) (by kernel_rfl) (by kernel_rfl)
  rw [Tryd.params7] at hA hval
  obtain ⟨v0, vs0, d0, ds0, p0, q0, hargs, rfl, rfl, h0, r0⟩ := trodAll_cons hA
  obtain ⟨v1, vs1, d1, ds1, p1, q1, rfl, rfl, rfl, h1, r1⟩ := trodAll_cons r0
  obtain ⟨v2, vs2, d2, ds2, p2, q2, rfl, rfl, rfl, h2, r2⟩ := trodAll_cons r1
  obtain ⟨rfl, rfl, rfl⟩ := trodAll_nil r2
  obtain rfl : args = #[v0, v1, v2] := by cases args; simp_all
  obtain ⟨cs, rfl, _⟩ := okWide_struct Tryd.underlying24 (hval 0 24 v0 rfl rfl)
  obtain ⟨m, rfl, rfl, rfl, hm0⟩ := open_int Tryd.underlying2 (hval 1 2 v1 rfl rfl) h1
  obtain ⟨s2, rfl, rfl, rfl, hs2⟩ := open_string Tryd.underlying9 (hval 2 9 v2 rfl rfl) h2
  obtain ⟨fuel, hf⟩ := h0
  obtain ⟨k, t, a, n, cap, fs, hcs, hr⟩ := open_item hf
  obtain rfl : cs = #[.int .i64 k, .string t, .slice a n cap] := Array.toList_inj.1 hcs
  rw [Lit.wf, Bool.and_eq_true, decide_eq_true_eq, decide_eq_true_eq] at hm0
  exact backL_any k t a n cap fs m ⟨hm0.1, hm0.2⟩ s2 W hr hN
end Go.Proofs.YteoalcmhdoopnaaDoor.lawItemBack
namespace Go.Proofs.YteoalcmhdoopnaaDoor.lawItemBack
open Go.ChangeShapes Go.WideShapes Go.ChangeAt Go.RowKit

theorem own : ownKnob Tryd.prog.godebug = none := by kernel_rfl
theorem laidOut : laidOutB Tryd.prog = true := by kernel_rfl
theorem argsOk : (Tryd.f7.params.toList.all fun t => Tryd.prog.readableRec t && decide (t < Tryd.prog.types.size)) = true := by kernel_rfl

set_option maxRecDepth 100000 in
theorem lifted (os : Os) (started : os.Started) (H : Type) (enc : TypeId × Value → H) :
    ReturnsInHanded {} Tryd.checked os 7 .any (fun w args => (Rows.itemBackSpec.pre enc Tryd.prog Tryd.f7 Rows.itemBackRow.domain false w args ∧ laidMetH Tryd.prog Rows.itemBackRow.laid w) ∧ sizedMet enc Tryd.prog Tryd.f7 (OpenSpec.ofChange Rows.itemBackSpec) false w args)
      (Rows.itemBackSpec.post enc Tryd.prog Tryd.f7 false true false false) := by
  refine returnsInHanded_of_change_and (C := Tryd.checked) (X := fun w _ => laidMetH Tryd.prog Rows.itemBackRow.laid w) (fun _ _ _ hh h => h.of_heap hh) own started (by kernel_rfl) Tryd.func7
    (ChangeSpec.witness_shaped (enc := enc) (C := Tryd.checked) (os := os) (X := fun w _ => laidMetH Tryd.prog Rows.itemBackRow.laid w) false (World.laidAll Tryd.prog os Rows.itemBackRow.laid) #[.agg #[.int .i64 0, .string ⟨#[]⟩, .slice none 0 0], .int .i64 0, .string ByteArray.empty] 8 (World.laidAll_os _ _ _)
      (World.shaped_of_ZipB (by kernel_rfl) (by kernel_rfl)) (by kernel_rfl) (by kernel_rfl) (by kernel_rfl)
      (by rw [MakeChecks.laidMetH_plain _ _ _ (by kernel_rfl)]; exact laidMet_laidAll _ (by kernel_rfl) (by kernel_rfl))) ?_
  intro W base args ds gs before hval0 hW hc hR hL _
  have hval : ∀ (j : Nat) t v, Tryd.f7.params[j]? = some t → args[j]? = some v → Value.okWide Tryd.prog W .any base t v := hval0
  have hW' := hW
  obtain ⟨p, q, hA0, hV, rfl, hfz, hnd⟩ := hW
  have hA : DataW.TrodAll enc Tryd.prog W 0 (fun _ => true) true Tryd.f7.params.toList args.toList ds p := hA0
  obtain ⟨rfl, rfl⟩ := trodVars_none hV
  clear hA0 hval0
  refine (walk W base args ds p hval hA hL hR).mono fun e W' ⟨he, bel⟩ => ?_
  subst he
  have hargs : (Rows.itemBackSpec.fn H (ds ++ [])).results = [.lit (.bool true)] ∧ (Rows.itemBackSpec.fn H (ds ++ [])).args = ds ∧ (Rows.itemBackSpec.fn H (ds ++ [])).vars = [] := by
    rw [Tryd.params7] at hA
    obtain ⟨v0, vs0, d0, ds0, p0, q0, hargs, rfl, rfl, h0, r0⟩ := trodAll_cons hA
    obtain ⟨v1, vs1, d1, ds1, p1, q1, rfl, rfl, rfl, h1, r1⟩ := trodAll_cons r0
    obtain ⟨v2, vs2, d2, ds2, p2, q2, rfl, rfl, rfl, h2, r2⟩ := trodAll_cons r1
    obtain ⟨rfl, rfl, rfl⟩ := trodAll_nil r2
    exact ⟨rfl, rfl, rfl⟩
  obtain ⟨hr1, hr2, hr3⟩ := hargs
  refine ⟨_, rfl, ds, [], _, [], p, [], hW', ?_, ?_, by rw [hr3]; rfl, bel.frame _, fun h => by cases h⟩
  · rw [hr1]; exact trodAll_mk1 (shut_bool Tryd.underlying4 _)
  · rw [hr2]; exact trodAll_below laidOut bel argsOk hA

theorem holds : Rows.ItemBackSaid :=
  OpenClaim.holds_of_wide 7 Tryd.f7 rfl rfl rfl rfl rfl rfl rfl ⟨rfl, rfl, rfl, rfl, rfl⟩ rfl rfl rfl rfl rfl (by kernel_rfl) Tryd.func7 (by kernel_rfl)
    (of_decide_eq_true (by kernel_rfl)) (by unfold Func.isWrapper; first | (rw [if_pos (by decide +kernel)]; kernel_rfl) | (rw [if_neg (by decide +kernel)]; exact ⟨rfl, rfl⟩))
    (fun os started H enc _ => lifted os started H enc)
theorem proved : Rows.ItemBackCardSaid :=
  Claim7.holds_tied_plain_at .later [] [.data, .data, .data, .sentinel, .sentinel] true Rows.itemBackCard.stood.harness true holds (fun _ h => by cases h) (by kernel_rfl) (fun _ h => by cases h) itemBack_row_tie rfl ⟨rfl, rfl⟩ (by kernel_rfl) rfl
    (fun f fn hf hfn => by
      obtain rfl : f = 7 := Option.some.inj ((show Tryd.prog.funcNamed "nearhand/nearhandlaw09.ItemBack" = some 7 by kernel_rfl).symm.trans hf) |>.symm
      obtain rfl : fn = Tryd.f7 := (Option.some.inj (Tryd.func7.symm.trans hfn)).symm
      exact ⟨by kernel_rfl, fun j t ht => by
        rw [Tryd.params7] at ht
        have hm : t ∈ ([24, 2, 9] : List TypeId) := by simpa using Array.mem_of_getElem? ht
        have hall : (([24, 2, 9] : List TypeId).all fun u => !Tryd.prog.wantsStandIn u) = true := by kernel_rfl
        exact (show Tryd.prog.wantsStandIn t = false by simpa using List.all_eq_true.1 hall t hm)⟩)
    (by kernel_rfl)
#print axioms proved
end Go.Proofs.YteoalcmhdoopnaaDoor.lawItemBack
