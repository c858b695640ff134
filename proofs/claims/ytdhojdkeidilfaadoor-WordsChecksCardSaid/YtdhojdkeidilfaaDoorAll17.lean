/- The table of commands: what words.All hands back. -/
import Derived.Test.YtdhojdkeidilfaaDoorProg
import Derived.Test.YtdhojdkeidilfaaDoorSpec
import Derived.Great.CaseRows
import Derived.BigFrame
namespace Go.Proofs.YtdhojdkeidilfaaDoor
open Go.RowKit

def words17 : List Spec := [
  ⟨⟨#[71, 69, 84]⟩, 1, 2, 2, 1, 1, 1⟩,
  ⟨⟨#[83, 69, 84]⟩, 2, 3, 64, 1, 1, 1⟩,
  ⟨⟨#[83, 69, 84, 78, 88]⟩, 2, 3, 3, 1, 1, 1⟩,
  ⟨⟨#[71, 69, 84, 83, 69, 84]⟩, 2, 3, 3, 1, 1, 1⟩,
  ⟨⟨#[71, 69, 84, 68, 69, 76]⟩, 2, 2, 2, 1, 1, 1⟩,
  ⟨⟨#[77, 71, 69, 84]⟩, 1, 2, 64, 1, (-1), 1⟩,
  ⟨⟨#[77, 83, 69, 84]⟩, 2, 3, 64, 1, (-1), 2⟩,
  ⟨⟨#[73, 78, 67, 82]⟩, 2, 2, 2, 1, 1, 1⟩,
  ⟨⟨#[68, 69, 67, 82]⟩, 2, 2, 2, 1, 1, 1⟩,
  ⟨⟨#[73, 78, 67, 82, 66, 89]⟩, 2, 3, 3, 1, 1, 1⟩,
  ⟨⟨#[68, 69, 67, 82, 66, 89]⟩, 2, 3, 3, 1, 1, 1⟩,
  ⟨⟨#[73, 78, 67, 82, 66, 89, 70, 76, 79, 65, 84]⟩, 2, 3, 3, 1, 1, 1⟩,
  ⟨⟨#[65, 80, 80, 69, 78, 68]⟩, 2, 3, 3, 1, 1, 1⟩,
  ⟨⟨#[83, 84, 82, 76, 69, 78]⟩, 1, 2, 2, 1, 1, 1⟩,
  ⟨⟨#[72, 83, 69, 84]⟩, 2, 4, 64, 1, 1, 1⟩,
  ⟨⟨#[72, 71, 69, 84]⟩, 1, 3, 3, 1, 1, 1⟩,
  ⟨⟨#[72, 68, 69, 76]⟩, 2, 3, 64, 1, 1, 1⟩,
  ⟨⟨#[72, 71, 69, 84, 65, 76, 76]⟩, 1, 2, 2, 1, 1, 1⟩,
  ⟨⟨#[72, 76, 69, 78]⟩, 1, 2, 2, 1, 1, 1⟩,
  ⟨⟨#[72, 69, 88, 73, 83, 84, 83]⟩, 1, 3, 3, 1, 1, 1⟩,
  ⟨⟨#[72, 77, 71, 69, 84]⟩, 1, 3, 64, 1, 1, 1⟩,
  ⟨⟨#[72, 73, 78, 67, 82, 66, 89]⟩, 2, 4, 4, 1, 1, 1⟩,
  ⟨⟨#[68, 69, 76]⟩, 2, 2, 64, 1, (-1), 1⟩,
  ⟨⟨#[85, 78, 76, 73, 78, 75]⟩, 2, 2, 64, 1, (-1), 1⟩,
  ⟨⟨#[69, 88, 73, 83, 84, 83]⟩, 1, 2, 64, 1, (-1), 1⟩,
  ⟨⟨#[69, 88, 80, 73, 82, 69]⟩, 2, 3, 3, 1, 1, 1⟩,
  ⟨⟨#[80, 69, 88, 80, 73, 82, 69]⟩, 2, 3, 3, 1, 1, 1⟩,
  ⟨⟨#[80, 69, 82, 83, 73, 83, 84]⟩, 2, 2, 2, 1, 1, 1⟩,
  ⟨⟨#[84, 84, 76]⟩, 1, 2, 2, 1, 1, 1⟩,
  ⟨⟨#[80, 84, 84, 76]⟩, 1, 2, 2, 1, 1, 1⟩,
  ⟨⟨#[84, 89, 80, 69]⟩, 1, 2, 2, 1, 1, 1⟩,
  ⟨⟨#[70, 76, 85, 83, 72, 65, 76, 76]⟩, 2, 1, 1, 0, 0, 0⟩,
  ⟨⟨#[68, 66, 83, 73, 90, 69]⟩, 1, 1, 1, 0, 0, 0⟩,
  ⟨⟨#[72, 69, 76, 76, 79]⟩, 3, 1, 2, 0, 0, 0⟩,
  ⟨⟨#[80, 73, 78, 71]⟩, 3, 1, 2, 0, 0, 0⟩,
  ⟨⟨#[69, 67, 72, 79]⟩, 3, 2, 2, 0, 0, 0⟩,
  ⟨⟨#[82, 69, 83, 69, 84]⟩, 3, 1, 1, 0, 0, 0⟩,
  ⟨⟨#[81, 85, 73, 84]⟩, 3, 1, 1, 0, 0, 0⟩,
  ⟨⟨#[67, 76, 73, 69, 78, 84]⟩, 3, 2, 64, 0, 0, 0⟩]

theorem infoInt : (Tryd.prog.info? 3).map (·.size) = some 1 := by kernel_rfl
/-- The operations of one row after the other: five numbers, then the call of words.spec. -/
def IsSpecs : Nat → List Spec → List Oper → List Oper → Prop
  | _, [], os, rest => os = rest
  | d, x :: xs, o1 :: o2 :: os, rest =>
    (o1.guard = none ∧ o1.dst = some d ∧ o1.op = .buildSlice 48 5 #[(0, .const (.int .i64 x.least)), (1, .const (.int .i64 x.most)), (2, .const (.int .i64 x.first)), (3, .const (.int .i64 x.last)), (4, .const (.int .i64 x.step))]) ∧
    (o2.guard = none ∧ o2.dst = some (d + 1) ∧ o2.op = .call { callee := .value (.func 22), args := #[.const (.string x.name), .const (.int .i64 x.kind), .tmp d], argTypes := #[9, 3, 48] }) ∧ IsSpecs (d + 2) xs os rest
  | _, _ :: _, _, _ => False

theorem wpList_specs {ops : Array Oper} {Q : Exit → Act → World → Prop} : ∀ (xs : List Spec) (d : Nat) (os rest : List Oper) (a : Act) (w : World), IsSpecs d xs os rest → d + 2 * xs.length ≤ a.tmps.size →
    (∀ (a' : Act) (w' : World), a'.tmps.size = a.tmps.size → a'.defers = a.defers → (∀ i (h : i < xs.length), a'.eval (.tmp (d + (2 * i + 1))) = .agg xs[i].cells.toArray) →
      (∀ j, j < d → a'.eval (.tmp j) = a.eval (.tmp j)) → Below w.heap.size w w' → wpList Tryd.prog ops Q rest a' w') → wpList Tryd.prog ops Q os a w
  | [], d, os, rest, a, w, hs, _, h => by
    cases hs
    exact h a w rfl rfl (fun i hi => absurd hi (by simp)) (fun _ _ => rfl) (Below.refl _ _)
  | x :: xs, d, [], rest, a, w, hs, hd, h => hs.elim
  | x :: xs, d, [o1], rest, a, w, hs, hd, h => hs.elim
  | x :: xs, d, o1 :: o2 :: os, rest, a, w, ⟨⟨g1, d1, p1⟩, ⟨g2, d2, p2⟩, hs⟩, hd, h => by
    have hlt : d + 1 < a.tmps.size := by simp at hd; omega
    refine wpList_buildFlatAt g1 48 3 5 _ p1 .i64 [x.least, x.most, x.first, x.last, x.step] w.heap.size rfl (some d) d1 Tryd.underlying48 infoInt (by kernel_rfl) rfl (by decide) (by decide) rfl ?_
    refine wpList_plain g2 fun K hK => ?_
    unfold Oper.wp
    have hrun : (execOp (a.put (some d) (.slice (some ⟨w.heap.size, 0, none⟩) 5 5)).eval o2).run Tryd.prog (w.alloc (.cells ([x.least, x.most, x.first, x.last, x.step].map (Value.int .i64)).toArray 3)) = .ok (.enter 22 #[.string x.name, .int .i64 x.kind, .slice (some ⟨w.heap.size, 0, none⟩) 5 5]) (w.alloc (.cells ([x.least, x.most, x.first, x.last, x.step].map (Value.int .i64)).toArray 3)) := by
      have he := Act.eval_put_same a d (Value.slice (some ⟨w.heap.size, 0, none⟩) 5 5) (by omega)
      unfold execOp
      simp [go_sem, p2, he]
      intro h9; omega
    rw [hrun, Oper.upon_enter]
    refine (spec_at x.name x.kind x.least x.most x.first x.last x.step w).mono ?_
    rintro e w1 ⟨rfl, hb⟩
    refine hK _ _ ?_
    rw [d2]
    refine wpList_specs xs (d + 2) os rest _ w1 hs (by rw [Act.size_put, Act.size_put]; simp at hd; omega) fun a' w' hsz hdf hev hlow hb' => ?_
    refine h a' w' (by rw [hsz, Act.size_put, Act.size_put]) (by rw [hdf, Act.defers_put', Act.defers_put']) (fun i hi => ?_) (fun j hj => ?_) (hb.trans (hb'.mono hb.size))
    · cases i with
      | zero => rw [show d + (2 * 0 + 1) = d + 1 by omega, hlow (d + 1) (by omega), Act.eval_put_same _ _ _ (by rw [Act.size_put]; omega)]; rfl
      | succ i =>
        have := hev i (by simpa using hi)
        rw [show d + (2 * (i + 1) + 1) = d + 2 + (2 * i + 1) by omega, this]
        rfl
    · rw [hlow j (by omega), Act.eval_put_ne _ _ _ _ (by omega), Act.eval_put_ne _ _ _ _ (by omega)]
set_option maxRecDepth 100000 in
set_option maxHeartbeats 1600000 in
theorem all17_any (w : World) : Calls Tryd.prog 8 #[] w fun e w' => ∃ b, e = .returned (.slice (some ⟨b, 0, none⟩) 39 39) ∧ w.heap.size ≤ b ∧ Blk w' b ∧ w'.rangeAt b 0 (words17.flatMap Spec.cells) ∧ Below w.heap.size w w' := by
  go_enter Tryd.func8, Tryd.ntmps8
  go_upto_region 1 with fail
  refine wp_region_lit ?_
  simp only [List.append_eq, List.cons_append, List.nil_append]
  refine wpList_specs words17 1 _ ?rest _ w ?hs (by simp [words17]) ?k
  case hs =>
    unfold words17
    iterate 39 refine ⟨⟨rfl, rfl, rfl⟩, ⟨rfl, rfl, rfl⟩, ?_⟩
    exact rfl
  intro a' w' hsz hdf hev hlow hb
  have hl : (words17.map fun x => Value.agg x.cells.toArray).length = 39 := by simp [words17]
  refine Go.Great.wpList_buildRows rfl 22 26 _ 7 (words17.map fun x => Value.agg x.cells.toArray) (by rw [hl]) (fun i => 1 + (2 * i + 1)) w'.heap.size rfl (some 79) rfl Tryd.underlying22 infoSpec (by kernel_rfl) (by decide) (by rw [hl]; decide) (by rw [hl]; decide) (by rw [hl]; rfl) (fun v hv => by obtain ⟨x, _, rfl⟩ := List.mem_map.1 hv; rfl) (fun i hi => by rw [hev i (by simpa using hi)]; simp) ?_
  have hc : ((words17.map fun x => Value.agg x.cells.toArray).flatMap fun v => v.cells.toList) = words17.flatMap Spec.cells := by simp [List.flatMap_map, Value.cells]
  rw [hl, hc]
  obtain ⟨w8, hw8⟩ : ∃ w8, w8 = w'.alloc (.cells (words17.flatMap Spec.cells).toArray 26) := ⟨_, rfl⟩
  have hB8 : Blk w8 w'.heap.size := by rw [hw8]; exact Blk.new _ _ _
  have hR8 : w8.rangeAt w'.heap.size 0 (words17.flatMap Spec.cells) := fun j u hj => by rw [hw8, Nat.zero_add, World.cell?_alloc_new]; simpa using hj
  have hb8 : Below w.heap.size w w8 := by rw [hw8]; exact hb.alloc hb.size _
  rw [← hw8]
  clear hw8 hev hlow
  obtain ⟨T, D⟩ := a'
  replace hsz : T.size = 80 := hsz
  replace hdf : D = [] := hdf
  subst hdf
  have he := Act.eval_put_same (⟨T, []⟩ : Act) 79 (Value.slice (some ⟨w'.heap.size, 0, none⟩) 39 39) (by show 79 < T.size; omega)
  have hz : ((⟨T, []⟩ : Act).put (some 79) (Value.slice (some ⟨w'.heap.size, 0, none⟩) 39 39)).tmps.size = 80 := by rw [Act.size_put]; exact hsz
  have hd : ((⟨T, []⟩ : Act).put (some 79) (Value.slice (some ⟨w'.heap.size, 0, none⟩) 39 39)).defers = [] := by rw [Act.defers_put']
  generalize (⟨T, []⟩ : Act).put (some 79) (Value.slice (some ⟨w'.heap.size, 0, none⟩) 39 39) = a9 at he hz hd ⊢
  refine wpList_plain rfl fun K hK => Go.BigFrame.wp_assign (.tmp 79) rfl (hK _ _ ?_)
  rw [he]
  refine wpList_nil ?_
  have hr := Act.eval_put_same a9 0 (Value.slice (some ⟨w'.heap.size, 0, none⟩) 39 39) (by omega)
  have hd2 : (a9.put (some 0) (Value.slice (some ⟨w'.heap.size, 0, none⟩) 39 39)).defers = [] := by rw [Act.defers_put']; exact hd
  generalize a9.put (some 0) (Value.slice (some ⟨w'.heap.size, 0, none⟩) 39 39) = a10 at hr hd2 ⊢
  obtain ⟨T9, D9⟩ := a10
  replace hd2 : D9 = [] := hd2
  subst hd2
  go_wp2
  exact bodyPost_ret (v := .slice (some ⟨w'.heap.size, 0, none⟩) 39 39) (by simpa [results, Tryd.results8, go_sem] using hr) rfl ⟨_, rfl, hb.size, hB8, hR8, hb8⟩
end Go.Proofs.YtdhojdkeidilfaaDoor
