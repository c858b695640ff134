/- slices.Delete of one field out of a row of the call's own. -/
import Derived.Test.YteoalcmhdoopnaaDoorInsert
import Derived.Laws.OwnMore
namespace Go.Proofs.YteoalcmhdoopnaaDoor
open Go.RowKit

theorem wpList_clear_eq {P : Program} {w : World} {ops : Array Oper} {rest : List Oper} {o : Oper} {a : Act} {Q : Exit → Act → World → Prop} (hgd : o.guard = none) (s : Operand) (t : TypeId)
    (ho : o.op = .call { callee := .builtin .clear, args := #[s], argTypes := #[t] }) (v : Value) (hs : a.eval s = v) {v' : Value} {w' : World}
    (hr : ∀ ty, (Builtin.clear_ #[t] ty #[v]).run P w = .ok v' w') (h : wpList P ops Q rest (a.put o.dst v') w') : wpList P ops Q (o :: rest) a w := by
  refine wpList_plain hgd fun K hK => ?_
  unfold Oper.wp execOp
  simp only [ho, resolve, invoke, builtin, Sem.run_bind, Sem.run_pure, Result.andThen_ok, List.map_toArray, List.map_cons, List.map_nil, hs, hr]
  exact hK _ _ h
theorem run_clear_row {P : Program} (w : World) (t ty e : TypeId) (ht : P.underlying t = some (.slice e)) (z : Value) (hz : ∀ W, (zeroValue e).run P W = .ok z W) (g o n c : Nat) (hn : 0 < n) (cur : Array Value) (te : TypeId)
    (hg : w.heap[g]? = some (.cells cur te (0, 0))) (hfit : o + n * z.cells.size ≤ cur.size) (h1 : ∀ u ∈ (Builtin.zeroCells z.cells n).toList, u.oneCell' = true) :
    (Builtin.clear_ #[t] ty #[.slice (some ⟨g, o, none⟩) n c]).run P w = .ok (.tuple #[]) (w.setRow g (cur.toList.take o ++ (Builtin.zeroCells z.cells n).toList ++ cur.toList.drop (o + (Builtin.zeroCells z.cells n).toList.length)).toArray) := by
  have hst := run_storeCells_at P g o te (Builtin.zeroCells z.cells n).toList 0 cur w hg (by rw [Array.length_toList, size_zeroCells]; simpa using hfit) h1
  obtain ⟨m, rfl⟩ : ∃ m, n = m + 1 := ⟨n - 1, by omega⟩
  simp [Builtin.clear_, run_underlying ht, hz]
  have e := congrArg (fun r : Result Unit => r.andThen fun _ w' => Result.ok (Value.tuple #[]) w') hst
  simpa using e
/-- One field less. -/
def del (fs : List Fld) (k : Nat) : List Fld := fs.take k ++ fs.drop (k + 1)
def DelP (B : Nat) (w : World) (g n cap : Nat) (fs : List Fld) (k : Nat) (e : Ending) (w' : World) : Prop :=
  e = .returned (.slice (some ⟨g, 0, none⟩) (n - 1) cap) ∧ w'.ownsRow B 30 2 (.slice (some ⟨g, 0, none⟩) (n - 1) cap) (n - 1) (flds (del fs k)) ∧ Fr (fun q => some g = some q) w w'
set_option maxRecDepth 100000 in
set_option maxHeartbeats 6400000 in
theorem delete_own (B g : Nat) (n cap k : Nat) (fs : List Fld) (w : World) (hown : w.ownsRow B 30 2 (.slice (some ⟨g, 0, none⟩) n cap) n (flds fs)) (hn : n ≤ 100000) (hk : k < n) :
    Calls Tryd.prog 36 #[.slice (some ⟨g, 0, none⟩) n cap, .int .i64 k, .int .i64 ((k : Int) + 1)] w (DelP B w g n cap fs k) := by
  have hl := (RF.of_owns hown).len
  obtain ⟨g', cur, hgg, hgB, hg, hnc, hcm, hcs, hx⟩ := owns_open hown
  obtain rfl : g = g' := by simpa using hgg
  clear hgg
  obtain ⟨m, hm⟩ : ∃ m, m = n - (k + 1) := ⟨_, rfl⟩
  obtain ⟨N, hN⟩ : ∃ N, N = n - 1 := ⟨_, rfl⟩
  have hcm' := hcm
  unfold maxLen at hcm
  have hadd : ∀ (b o j : Nat), (⟨b, o, none⟩ : Addr).add j = ⟨b, o + j, none⟩ := fun b o j => by unfold Addr.add; split <;> simp_all
  have hpart : w.ownsRow B 30 2 (.slice (some ⟨g, 0, none⟩) k cap) k (flds (fs.take k)) := owns_shut hgB hg (by omega) hcm' hcs (by rw [← flds_take, ← hx, List.take_take, Nat.min_eq_left (by omega)])
  obtain ⟨i0, hi0, hi1⟩ := Option.map_eq_some_iff.1 infoFld
  simp only [Prod.mk.injEq] at hi1
  have hml : (flds (fs.drop (k + 1))).length = m * i0.size := by rw [hi1.2.1, flds_len, List.length_drop, hl]; omega
  have hrun : ∀ o c, (0 < m → o = (k + 1) * 2) → ∃ w', (∀ ty, (Builtin.append_ #[22, 22] ty #[.slice (some ⟨g, 0, none⟩) k cap, .slice (some ⟨g, o, none⟩) m c]).run Tryd.prog w.drew = .ok (.slice (some ⟨g, 0, none⟩) N cap) w') ∧
      w'.ownsRow B 30 2 (.slice (some ⟨g, 0, none⟩) N cap) N (flds (del fs k)) ∧ Fr (fun q => some g = some q) w w' := fun o c ho => by
    have hkm : k + m = N := by omega
    have h := fun ty => run_append_fits (P := Tryd.prog) (w := w.drew) B 22 ty 30 i0 2 Tryd.underlying22 hi0 hi1.2.1 g k cap (flds (fs.take k)) hpart ⟨g, o, none⟩ m c (flds (fs.drop (k + 1))) (by rw [hml, hi1.2.1]) (fun j u hj => by
      rcases Nat.eq_zero_or_pos m with e | e
      · rw [e, Nat.zero_mul] at hml; rw [List.length_eq_zero_iff.1 hml] at hj; simp at hj
      · rw [ho e, hadd, cell_row (show w.drew.heap[g]? = _ from hg)]
        rw [← flds_drop, List.getElem?_drop, ← hx, List.getElem?_take] at hj
        split at hj
        · simpa using hj
        · cases hj) (fun u hu => List.all_eq_true.1 (flds_one _) u hu) (by omega)
    rw [hkm] at h
    obtain ⟨w', h1, h2, h3⟩ := h 0
    refine ⟨w', fun ty => ?_, by unfold del; rw [flds_append]; exact h2, ?_⟩
    · obtain ⟨w'', k1, -, -⟩ := h ty
      have : w'' = w' := by
        have e := (congrArg (fun r : Result Value => match r with | .ok _ W => W | .halt _ W => W) (k1.symm.trans (by simp only [Builtin.append_] at h1 ⊢; exact h1)))
        exact e
      rw [k1, this]
    · have h4 := Fr.of_grown h3
      exact ⟨h4.os, h4.tape, h4.output, h4.size, h4.block⟩
  obtain ⟨z, hz1, hz2⟩ := Option.map_eq_some_iff.1 hi1.1
  have hzero : ∀ W, (zeroValue 30).run Tryd.prog W = .ok (.agg #[.string ⟨#[]⟩, .string ⟨#[]⟩]) W := fun W => by kernel_rfl
  have hclr : ∀ w1 : World, w1.ownsRow B 30 2 (.slice (some ⟨g, 0, none⟩) N cap) N (flds (del fs k)) → Fr (fun q => some g = some q) w w1 → ∃ w2, (∀ ty c, (Builtin.clear_ #[22] ty #[.slice (some ⟨g, N * 2, none⟩) (n - N) c]).run Tryd.prog w1 = .ok (.tuple #[]) w2) ∧
      w2.ownsRow B 30 2 (.slice (some ⟨g, 0, none⟩) N cap) N (flds (del fs k)) ∧ Fr (fun q => some g = some q) w w2 := fun w1 h1 hf => by
    obtain ⟨g', cur', hgg, hgB', hg', hnc', hcm2, hcs', hx'⟩ := owns_open h1
    obtain rfl : g = g' := by simpa using hgg
    have hnN : n - N = 1 := by omega
    have hzc : (Builtin.zeroCells (Value.agg #[.string ⟨#[]⟩, .string ⟨#[]⟩]).cells 1).toList = [.string ⟨#[]⟩, .string ⟨#[]⟩] := by kernel_rfl
    have h := fun ty c => run_clear_row (P := Tryd.prog) w1 22 ty 30 Tryd.underlying22 (.agg #[.string ⟨#[]⟩, .string ⟨#[]⟩]) hzero g (N * 2) 1 c (by omega) cur' 30 hg' (by rw [hcs']; show N * 2 + 1 * 2 ≤ _; omega) (fun u hu => by rw [hzc] at hu; simp at hu; subst hu; rfl)
    rw [hzc] at h
    rw [hnN]
    refine ⟨_, h, ?_, fr_setRow hf (fun _ => rfl) hg' _⟩
    have hcl : cur'.toList.length = cap * 2 := by rw [Array.length_toList]; exact hcs'
    refine owns_shut hgB' (heap_setRow hg' _) (by omega) hcm2 (by simp [hcs']; omega) ?_
    rw [List.toList_toArray, List.append_assoc, List.take_append_of_le_length (by rw [List.length_take, hcl]; omega), List.take_take, Nat.min_self, hx']
  have hend : ∀ w2 : World, w2.ownsRow B 30 2 (.slice (some ⟨g, 0, none⟩) N cap) N (flds (del fs k)) → Fr (fun q => some g = some q) w w2 → DelP B w g n cap fs k (.returned (.slice (some ⟨g, 0, none⟩) N cap)) w2 := fun w2 h1 h2 => by
    unfold DelP; rw [← hN]; exact ⟨rfl, h1, h2⟩
  have hN1 : N < n := by omega
  have hN2 : ¬ (cap = N) := by omega
  have hN3 : N ≤ cap := by omega
  replace hrun := Lib.hid hrun
  replace hclr := Lib.hid hclr
  replace hend := Lib.hid hend
  replace hN := Lib.hid hN
  clear hzero hz1 hz2 z hml hi1 hi0 i0 hpart hadd hx hcs hg hl hown
  have hkb : ((k : Int) == (k : Int) + 1) = false := by simp; omega
  have htn : ((k : Int) + 1).toNat = k + 1 := by omega
  have hb1 : (0 : Int) ≤ (k : Int) + 1 := by omega
  have hb2 : (k : Int) + 1 ≤ (n : Int) := by omega
  have hb3 : (k : Int) ≤ (k : Int) + 1 := by omega
  have hb4 : k + 1 ≤ n := by omega
  have hb5 : k ≤ cap := by omega
  subst hm
  by_cases hc : cap = k + 1
  · subst hc
    obtain ⟨w1, hr1, ho1, hf1⟩ := hrun.out 0 0 (fun h => by omega)
    rw [show n - (k + 1) = 0 by omega] at hr1
    obtain ⟨w2, hr2, ho2, hf2⟩ := hclr.out w1 ho1 hf1
    have hz := hend.out w2 ho2 hf2
    replace hz := Lib.hid hz
    replace hr2 := Lib.hid hr2
    clear ho1 hf1 ho2 hf2
    go_enter Tryd.func36, Tryd.ntmps36
    go_wp2_with fail
    go_still_tail 6, (by kernel_rfl)
    change wpList _ _ _ _ _ w.drew
    refine Lib.wpList_append_run _ rfl _ _ 22 22 rfl (.slice (some ⟨g, 0, none⟩) k (k + 1)) (.slice (some ⟨g, 0, none⟩) 0 0) ?a1 ?a2 _ _ (hr1 _) ?_
    case a1 => rfl
    case a2 => rfl
    clear htn hr1
    go_wp2_with (refine wpList_clear_eq rfl _ 22 rfl _ rfl (fun ty => hr2.out ty _) ?_)
    go_ret
    exact hz.out
  · obtain ⟨w1, hr1, ho1, hf1⟩ := hrun.out ((k + 1) * 2) (cap - (k + 1)) (fun h => rfl)
    obtain ⟨w2, hr2, ho2, hf2⟩ := hclr.out w1 ho1 hf1
    have hz := hend.out w2 ho2 hf2
    replace hz := Lib.hid hz
    replace hr2 := Lib.hid hr2
    clear ho1 hf1 ho2 hf2
    go_enter Tryd.func36, Tryd.ntmps36
    go_wp2_with fail
    go_still_tail 6, (by kernel_rfl)
    change wpList _ _ _ _ _ w.drew
    refine Lib.wpList_append_run _ rfl _ _ _ _ rfl _ _ rfl rfl _ _ (hr1 _) ?_
    clear htn hr1
    go_wp2_with (refine wpList_clear_eq rfl _ 22 rfl _ rfl (fun ty => hr2.out ty _) ?_)
    go_ret
    exact hz.out
end Go.Proofs.YteoalcmhdoopnaaDoor
