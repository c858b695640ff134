/- RecentRuns returns true at every input, and leaves the input as it was: the statement RecentRunsSaid, with no condition of its own. -/
import Derived.Test.YtlddjcfbapdjnaaRows
import Derived.Test.YtlddjcfbapdjnaaRuns10
import Derived.Test.YtlddjcfbapdjnaaOpen
namespace Go.Proofs.Ytlddjcfbapdjnaa
open Go.ChangeShapes Go.WideShapes Go.ChangeAt Go.RowKit Go.Deep

/-- The acts that came in. -/
theorem open_acts {H : Type} {enc : TypeId × Value → H} {w : World} {fuel : Nat} {a : Option Addr} {len cap : Nat} {x : DataW H × List MemPlace}
    (h : DataW.trod enc Try.prog w 0 (fun _ => true) true fuel 22 [.slice a len cap] = some x) : len ≤ maxLen ∧ ∃ acts, Reads w 2 (.slice a len cap) len (actCells acts) := by
  obtain ⟨hl, h⟩ := open_slice_rows Try.underlying22 Try.underlying28 (by kernel_rfl) (by kernel_rfl) h
  refine ⟨hl, ?_⟩
  rcases h with ⟨rfl, rfl⟩ | ⟨ad, rfl, hi⟩
  · exact ⟨[], Reads.nil _ _ _ _⟩
  · obtain ⟨acts, hal, har⟩ := exists_list (R := fun i (p : Int × ByteArray) => w.cell? (ad.add (i * 2)) = some (.int .i64 p.1) ∧ w.cell? (ad.add (i * 2 + 1)) = some (.string p.2)) len (fun i him => by
      obtain ⟨ys, n, _, hf⟩ := hi i him
      obtain ⟨v0, y0, c0, _, t0⟩ := hf 0 _ rfl
      obtain ⟨v1, y1, c1, _, t1⟩ := hf 1 _ rfl
      obtain ⟨k, e0, _, _⟩ := DataW.trod_int Try.underlying3 t0
      obtain ⟨s, e1, _, _⟩ := DataW.trod_string Try.underlying9 t1
      simp at e0 e1
      subst e0; subst e1
      exact ⟨(k, s), c0, c1⟩)
    refine ⟨acts, some ad, cap, rfl, by rw [actCells_len]; omega, fun j u hj => ?_⟩
    have hjl := (List.getElem?_eq_some_iff.1 hj).1
    rw [actCells_len] at hjl
    have hk : j / 2 < acts.length := by omega
    obtain ⟨q0, q1⟩ := actCells_at hk
    obtain ⟨r0, r1⟩ := har (j / 2) hk
    obtain ⟨b, o, rfl⟩ := add_plain (har 0 (by omega)).1
    rw [add_mk] at r0 r1
    refine ⟨b, o, rfl, ?_⟩
    by_cases hm : j % 2 = 0
    · have e : j = j / 2 * 2 := by omega
      rw [← e] at q0 r0
      rw [q0] at hj; cases hj; exact r0
    · have e : j = j / 2 * 2 + 1 := by omega
      rw [← e] at q1 r1
      rw [q1] at hj; cases hj; exact r1
end Go.Proofs.Ytlddjcfbapdjnaa

namespace Go.Proofs.Ytlddjcfbapdjnaa.lawRecentRuns
open Go.ChangeShapes Go.WideShapes Go.ChangeAt Go.RowKit
open Go.ChangeMaps (open_string shut_string)
theorem walk {H : Type} {enc : TypeId × Value → H} (W : World) (base : Nat) (args : Array Value) (ds : List (DataW H)) (p : List MemPlace)
    (hval : ∀ (j : Nat) t v, Try.f3.params[j]? = some t → args[j]? = some v → Value.okWide Try.prog W .any base t v)
    (hA : DataW.TrodAll enc Try.prog W 0 (fun _ => true) true Try.f3.params.toList args.toList ds p) :
    Calls Try.prog 3 args W fun e W' => e = .returned (.bool true) ∧ Below W.heap.size W W' := by
  rw [Try.params3] at hA hval
  obtain ⟨v0, vs0, d0, ds0, p0, q0, hargs, rfl, rfl, h0, r0⟩ := trodAll_cons hA
  obtain ⟨v1, vs1, d1, ds1, p1, q1, rfl, rfl, rfl, h1, r1⟩ := trodAll_cons r0
  obtain ⟨rfl, rfl, rfl⟩ := trodAll_nil r1
  obtain rfl : args = #[v0, v1] := by cases args; simp_all
  obtain ⟨a0, len0, cap0, rfl⟩ := okWide_slice Try.underlying22 (hval 0 22 v0 rfl rfl)
  obtain ⟨s1, rfl, rfl, rfl, hs1⟩ := open_string Try.underlying9 (hval 1 9 v1 rfl rfl) h1
  obtain ⟨fuel, hf⟩ := h0
  obtain ⟨hl, acts, hx⟩ := open_acts hf
  exact runs_any hx s1
end Go.Proofs.Ytlddjcfbapdjnaa.lawRecentRuns
namespace Go.Proofs.Ytlddjcfbapdjnaa.lawRecentRuns
open Go.ChangeShapes Go.WideShapes Go.ChangeAt Go.RowKit
open Go.ChangeMaps (open_string shut_string)

theorem own : ownKnob Try.prog.godebug = none := by kernel_rfl
theorem laidOut : laidOutB Try.prog = true := by kernel_rfl
theorem argsOk : (Try.f3.params.toList.all fun t => Try.prog.readableRec t && decide (t < Try.prog.types.size)) = true := by kernel_rfl

set_option maxRecDepth 100000 in
theorem lifted (os : Os) (started : os.Started) (H : Type) (enc : TypeId × Value → H) :
    ReturnsInHanded {} Try.checked os 3 .any (Rows.recentRunsSpec.pre6 enc Try.prog Try.f3 Rows.recentRunsRow.domain false) (Rows.recentRunsSpec.post enc Try.prog Try.f3 false true false false) := by
  refine returnsInHanded_of_change (C := Try.checked) own started (by kernel_rfl) Try.func3
    (ChangeSpec.witness6 (enc := enc) (C := Try.checked) false ⟨#[], #[.slice none 0 0, .string ByteArray.empty], []⟩ 8 (by kernel_rfl) (by kernel_rfl) (by kernel_rfl) (by kernel_rfl)) ?_
  intro W base args ds gs before hval0 hW hcnd _
  have hval : ∀ (j : Nat) t v, Try.f3.params[j]? = some t → args[j]? = some v → Value.okWide Try.prog W .any base t v := hval0
  have hW' := hW
  obtain ⟨p, q, hA0, hV, rfl, hfz, hnd⟩ := hW
  have hA : DataW.TrodAll enc Try.prog W 0 (fun _ => true) true Try.f3.params.toList args.toList ds p := hA0
  obtain ⟨rfl, rfl⟩ := trodVars_none hV
  clear hA0 hval0
  refine (walk W base args ds p hval hA).mono fun e W' ⟨he, bel⟩ => ?_
  subst he
  have hargs : (Rows.recentRunsSpec.fn H (ds ++ [])).results = [.lit (.bool true)] ∧ (Rows.recentRunsSpec.fn H (ds ++ [])).args = ds ∧ (Rows.recentRunsSpec.fn H (ds ++ [])).vars = [] := by
    rw [Try.params3] at hA
    obtain ⟨v0, vs0, d0, ds0, p0, q0, hargs, rfl, rfl, h0, r0⟩ := trodAll_cons hA
    obtain ⟨v1, vs1, d1, ds1, p1, q1, rfl, rfl, rfl, h1, r1⟩ := trodAll_cons r0
    obtain ⟨rfl, rfl, rfl⟩ := trodAll_nil r1
    exact ⟨rfl, rfl, rfl⟩
  obtain ⟨hr1, hr2, hr3⟩ := hargs
  refine ⟨_, rfl, ds, [], _, [], p, [], hW', ?_, ?_, by rw [hr3]; rfl, bel.frame _, fun h => by cases h⟩
  · rw [hr1]; exact trodAll_mk1 (shut_bool Try.underlying4 _)
  · rw [hr2]; exact trodAll_below laidOut bel argsOk hA

theorem over : Rows.recentRunsRow.holds Try.pinned (OpenSpec.ofChange Rows.recentRunsSpec) :=
  OpenClaim.holds_of_wide 3 Try.f3 rfl rfl rfl rfl rfl rfl rfl ⟨rfl, rfl, rfl, rfl, rfl⟩ rfl rfl rfl rfl rfl (by kernel_rfl) Try.func3 (by kernel_rfl)
    (of_decide_eq_true (by kernel_rfl)) (by unfold Func.isWrapper; first | (rw [if_pos (by decide +kernel)]; kernel_rfl) | (rw [if_neg (by decide +kernel)]; exact ⟨rfl, rfl⟩))
    (fun os started H enc _ => lifted os started H enc)

theorem proved : Rows.RecentRunsSaid := over
#print axioms proved
end Go.Proofs.Ytlddjcfbapdjnaa.lawRecentRuns
