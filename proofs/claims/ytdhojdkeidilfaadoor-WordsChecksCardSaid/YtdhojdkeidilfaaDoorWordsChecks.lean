/- WordsChecks returns true at every input, and leaves the input as it was: the card WordsChecksCardSaid, with no condition of its own. -/
import Derived.Test.YtdhojdkeidilfaaDoorCards
import Derived.Test.YtdhojdkeidilfaaDoorTie
import Derived.Test.YtdhojdkeidilfaaDoorOpen
import Derived.Test.YtdhojdkeidilfaaDoorChkL17
import Derived.ProofKit
import Derived.OpenShut
import Derived.LaidMore
import Derived.LaidSub
import Derived.Lib.LaidTab
import Derived.Lay
import Derived.SevenTiedAt
import Derived.Stop.Joined
import Derived.SliceStrings
import Derived.SizedLaws
namespace Go.Proofs.YtdhojdkeidilfaaDoor.lawWordsChecks
open Go.ChangeShapes Go.WideShapes Go.ChangeAt Go.RowKit
theorem weights_strs {H : Type} {P : Program} {e : TypeId} : ∀ (l : List ByteArray) (s : ByteArray), s ∈ l → s.data.toList.length ∈ DataW.weightsAll P e (strs (H := H) l)
  | [], s, hs => by simp at hs
  | x :: l, s, hs => by
    simp only [strs, List.map_cons, DataW.weightsAll, List.mem_append]
    rcases List.mem_cons.1 hs with rfl | h
    · exact Or.inl (by simp [DataW.weights])
    · exact Or.inr (weights_strs l s h)
theorem open_texts_sized {H : Type} {enc : TypeId × Value → H} {P : Program} {w : World} {t e : TypeId} {fuel : Nat} {a : Option Addr} {len cap : Nat} {x : DataW H × List MemPlace} (ht : P.underlying t = some (.slice e)) (he : P.underlying e = some .string) (hC : P.cellsOf e = 1)
    (h : DataW.trod enc P w 0 (fun _ => true) true fuel t [.slice a len cap] = some x) (hsz : ∀ n ∈ x.1.weights P t, n ≤ reachBytes) :
    ∃ xs : List ByteArray, Reads w 1 (.slice a len cap) len (xs.map Value.string) ∧ ∀ s ∈ xs, s.size ≤ reachBytes := by
  rcases open_strings ht he hC h with ⟨h0, _⟩ | ⟨ad, len', cap', ss, hcs, _, hl, _, hn, rfl, hat, _⟩
  · simp at h0
    obtain ⟨rfl, rfl, rfl⟩ := h0
    exact ⟨[], Reads.nil _ _ _ _, by simp⟩
  · simp at hcs
    obtain ⟨rfl, rfl, rfl⟩ := hcs
    simp only [if_true] at hn
    refine ⟨ss.take len, ⟨some ad, cap, rfl, by simp; omega, fun j u hj => ?_⟩, fun s hs => ?_⟩
    · have hjl : j < (ss.take len).length := by have := (List.getElem?_eq_some_iff.1 hj).1; simpa using this
      have hjs : j < ss.length := by simp at hjl; omega
      rw [List.getElem?_map, List.getElem?_eq_getElem hjl] at hj
      simp only [Option.map_some, Option.some.injEq, List.getElem_take] at hj
      subst hj
      obtain ⟨b, o, rfl⟩ := add_plain (hat 0 (by omega))
      refine ⟨b, o, rfl, ?_⟩
      have := hat j hjs
      rw [add_mk, List.getD_eq_getElem?_getD, List.getElem?_eq_getElem hjs] at this
      simpa using this
    · have h1 := hsz s.data.toList.length (by
        simp only [DataW.weights, ht, List.mem_cons, List.mem_append]
        exact Or.inr (Or.inl (weights_strs _ s hs)))
      rw [Array.length_toList] at h1
      exact h1
theorem tab_of {W : World} (h : laidMetH Tryd.prog Rows.wordsChecksRow.laid W) : Lib.TabIs Tryd.prog W "internal/strconv.uint64pow10" .u64 Lib.pow10Tab := by
  rw [MakeChecks.laidMetH_plain _ _ _ (by kernel_rfl)] at h
  have h2 := h.filter (fun x => x.1 == "internal/strconv.uint64pow10")
  have e : (Rows.wordsChecksRow.laid.filter (fun x => x.1 == "internal/strconv.uint64pow10")) = [("internal/strconv.uint64pow10", Lib.tabData .u64 Lib.pow10Tab)] := by kernel_rfl
  rw [e] at h2
  exact Lib.tabIs_of_head (g := 4) (t := 101) (e := 85) (n := 20) (by kernel_rfl) (by kernel_rfl) Tryd.underlying101 Tryd.underlying85 (by kernel_rfl) (by kernel_rfl) h2
set_option maxRecDepth 100000 in
theorem walk {H : Type} {enc : TypeId × Value → H} (W : World) (base : Nat) (args : Array Value) (ds : List (DataW H)) (p : List MemPlace)
    (hval : ∀ (j : Nat) t v, Tryd.f7.params[j]? = some t → args[j]? = some v → Value.okWide Tryd.prog W .any base t v)
    (hA : DataW.TrodAll enc Tryd.prog W 0 (fun _ => true) true Tryd.f7.params.toList args.toList ds p) (hL : laidMetH Tryd.prog Rows.wordsChecksRow.laid W)
    (hR : (DataW.weightsEach Tryd.prog (Tryd.f7.params.toList ++ Rows.wordsChecksSpec.plain.varTypes Tryd.prog) (ds ++ [])).all (· ≤ reachBytes) = true) :
    Calls Tryd.prog 7 args W fun e W' => e = .returned (.bool true) ∧ Below W.heap.size W W' := by
  rw [Tryd.params7] at hA hval hR
  obtain ⟨v0, vs0, d0, ds0, p0, q0, hargs, rfl, rfl, h0, r0⟩ := trodAll_cons hA
  obtain ⟨v1, vs1, d1, ds1, p1, q1, rfl, rfl, rfl, h1, r1⟩ := trodAll_cons r0
  obtain ⟨rfl, rfl, rfl⟩ := trodAll_nil r1
  obtain rfl : args = #[v0, v1] := by cases args; simp_all
  obtain ⟨a0, len0, cap0, rfl⟩ := okWide_slice Tryd.underlying29 (hval 0 29 v0 rfl rfl)
  obtain ⟨m1, rfl, rfl, rfl, hwf1⟩ := open_int Tryd.underlying3 (hval 1 3 v1 rfl rfl) h1
  obtain ⟨fuel, hf⟩ := h0
  obtain ⟨keys, hx, hs⟩ := open_texts_sized Tryd.underlying29 Tryd.underlying9 (by kernel_rfl) hf (fun n hn => by
    have := List.all_eq_true.1 hR _ (DataW.weights_mem_each (j := 0) rfl rfl n hn)
    simpa using this)
  have hw : -9223372036854775808 ≤ m1 ∧ m1 ≤ 9223372036854775807 := by
    rw [Lit.wf, Bool.and_eq_true, decide_eq_true_eq, decide_eq_true_eq] at hwf1
    exact ⟨hwf1.1, hwf1.2⟩
  exact checksL17_any hx (fun k hk => Nat.le_trans (hs k hk) (by decide)) m1 hw.1 hw.2 (tab_of hL)
end Go.Proofs.YtdhojdkeidilfaaDoor.lawWordsChecks
namespace Go.Proofs.YtdhojdkeidilfaaDoor.lawWordsChecks
open Go.ChangeShapes Go.WideShapes Go.ChangeAt Go.RowKit

theorem own : ownKnob Tryd.prog.godebug = none := by kernel_rfl
theorem laidOut : laidOutB Tryd.prog = true := by kernel_rfl
theorem argsOk : (Tryd.f7.params.toList.all fun t => Tryd.prog.readableRec t && decide (t < Tryd.prog.types.size)) = true := by kernel_rfl

set_option maxRecDepth 100000 in
theorem lifted (os : Os) (started : os.Started) (H : Type) (enc : TypeId × Value → H) :
    ReturnsInHanded {} Tryd.checked os 7 .any (fun w args => (Rows.wordsChecksSpec.pre enc Tryd.prog Tryd.f7 Rows.wordsChecksRow.domain false w args ∧ laidMetH Tryd.prog Rows.wordsChecksRow.laid w) ∧ sizedMet enc Tryd.prog Tryd.f7 (OpenSpec.ofChange Rows.wordsChecksSpec) false w args)
      (Rows.wordsChecksSpec.post enc Tryd.prog Tryd.f7 false true false false) := by
  refine returnsInHanded_of_change_and (C := Tryd.checked) (X := fun w _ => laidMetH Tryd.prog Rows.wordsChecksRow.laid w) (fun _ _ _ hh h => h.of_heap hh) own started (by kernel_rfl) Tryd.func7
    (ChangeSpec.witness_shaped (enc := enc) (C := Tryd.checked) (os := os) (X := fun w _ => laidMetH Tryd.prog Rows.wordsChecksRow.laid w) false (World.laidAll Tryd.prog os Rows.wordsChecksRow.laid) #[.slice none 0 0, .int .i64 0] 8 (World.laidAll_os _ _ _)
      (World.shaped_of_ZipB (by kernel_rfl) (by kernel_rfl)) (by kernel_rfl) (by kernel_rfl) (by kernel_rfl)
      (by rw [MakeChecks.laidMetH_plain _ _ _ (by kernel_rfl)]; exact laidMet_laidAll _ (by kernel_rfl) (by kernel_rfl))) ?_
  intro W base args ds gs before hval0 hW hc hR hL _
  have hval : ∀ (j : Nat) t v, Tryd.f7.params[j]? = some t → args[j]? = some v → Value.okWide Tryd.prog W .any base t v := hval0
  have hW' := hW
  obtain ⟨p, q, hA0, hV, rfl, hfz, hnd⟩ := hW
  have hA : DataW.TrodAll enc Tryd.prog W 0 (fun _ => true) true Tryd.f7.params.toList args.toList ds p := hA0
  obtain ⟨rfl, rfl⟩ := trodVars_none hV
  clear hA0 hval0
  refine (walk W base args ds p hval hA hL hR).mono fun e W' ⟨he, bel⟩ => ?_
  subst he
  have hargs : (Rows.wordsChecksSpec.fn H (ds ++ [])).results = [.lit (.bool true)] ∧ (Rows.wordsChecksSpec.fn H (ds ++ [])).args = ds ∧ (Rows.wordsChecksSpec.fn H (ds ++ [])).vars = [] := by
    rw [Tryd.params7] at hA
    obtain ⟨v0, vs0, d0, ds0, p0, q0, hargs, rfl, rfl, h0, r0⟩ := trodAll_cons hA
    obtain ⟨v1, vs1, d1, ds1, p1, q1, rfl, rfl, rfl, h1, r1⟩ := trodAll_cons r0
    obtain ⟨rfl, rfl, rfl⟩ := trodAll_nil r1
    exact ⟨rfl, rfl, rfl⟩
  obtain ⟨hr1, hr2, hr3⟩ := hargs
  refine ⟨_, rfl, ds, [], _, [], p, [], hW', ?_, ?_, by rw [hr3]; rfl, bel.frame _, fun h => by cases h⟩
  · rw [hr1]; exact trodAll_mk1 (shut_bool Tryd.underlying4 _)
  · rw [hr2]; exact trodAll_below laidOut bel argsOk hA

theorem holds : Rows.WordsChecksSaid :=
  OpenClaim.holds_of_wide 7 Tryd.f7 rfl rfl rfl rfl rfl rfl rfl ⟨rfl, rfl, rfl, rfl, rfl⟩ rfl rfl rfl rfl rfl (by kernel_rfl) Tryd.func7 (by kernel_rfl)
    (of_decide_eq_true (by kernel_rfl)) (by unfold Func.isWrapper; first | (rw [if_pos (by decide +kernel)]; kernel_rfl) | (rw [if_neg (by decide +kernel)]; exact ⟨rfl, rfl⟩))
    (fun os started H enc _ => lifted os started H enc)
theorem proved : Rows.WordsChecksCardSaid :=
  Claim7.holds_tied_plain_at .later [] [.data, .data, .data, .data, .pinned, .pinned] true Rows.wordsChecksCard.stood.harness false holds (fun _ h => by cases h) (by kernel_rfl) (fun _ h => by cases h) wordsChecks_row_tie rfl ⟨rfl, rfl⟩ (by kernel_rfl) rfl
    (fun f fn hf hfn => by
      obtain rfl : f = 7 := Option.some.inj ((show Tryd.prog.funcNamed "nearhand/nearhandlaw17.WordsChecks" = some 7 by kernel_rfl).symm.trans hf) |>.symm
      obtain rfl : fn = Tryd.f7 := (Option.some.inj (Tryd.func7.symm.trans hfn)).symm
      exact ⟨by kernel_rfl, fun j t ht => by
        rw [Tryd.params7] at ht
        have hm : t ∈ ([29, 3] : List TypeId) := by simpa using Array.mem_of_getElem? ht
        have hall : (([29, 3] : List TypeId).all fun u => !Tryd.prog.wantsStandIn u) = true := by kernel_rfl
        exact (show Tryd.prog.wantsStandIn t = false by simpa using List.all_eq_true.1 hall t hm)⟩)
    (by kernel_rfl)
#print axioms proved
end Go.Proofs.YtdhojdkeidilfaaDoor.lawWordsChecks
