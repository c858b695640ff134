/- Bytes that lie elsewhere, behind a row of one's own; a buffer beside it stays as it is. -/
import Derived.Test.YtgpfjhligiapdaaGreatDoorRowB
namespace Go.Proofs.YtgpfjhligiapdaaGreatDoor
open Go.RowKit

theorem add_at (b o j : Nat) : (⟨b, o, none⟩ : Addr).add j = ⟨b, o + j, none⟩ := by
  unfold Addr.add
  split
  · rename_i h; subst h; rfl
  · rfl
/-- A row of bytes of one's own, apart from block k. -/
structure RowK (B k : Nat) (w : World) (v : Value) (s : ByteArray) : Prop where
  row : Row B w v s
  off : v.ownBlock ≠ some k
  lt : k < w.heap.size
/-- Block k is as it was. -/
def Kept (k : Nat) (w w' : World) : Prop := w'.heap[k]? = w.heap[k]?
theorem Kept.refl (k : Nat) (w : World) : Kept k w w := rfl
theorem Kept.trans {k : Nat} {a b c : World} (h : Kept k a b) (g : Kept k b c) : Kept k a c := Eq.trans g h
theorem Kept.cell {k : Nat} {w w' : World} (h : Kept k w w') (o : Nat) : w'.cell? ⟨k, o, none⟩ = w.cell? ⟨k, o, none⟩ := World.cell?_of_block (w := w) h
theorem app_bytesK {ops : Array Oper} {rest : List Oper} {o : Oper} {a : Act} {Q : Exit → Act → World → Prop} {sl x : Operand} {B k b off cx : Nat} {w : World} {v : Value} {s t : ByteArray} (hgd : o.guard = none)
    (ho : o.op = .call { callee := .builtin .append, args := #[sl, x], argTypes := #[61, 61] }) (hs : a.eval sl = v) (hR : RowK B k w v s) (hx : a.eval x = .slice (some ⟨b, off, none⟩) t.size cx)
    (hc : ∀ j (h : j < t.size), w.cell? ⟨b, off + j, none⟩ = some (.int .u8 ((t.data[j]'h).toNat : Int))) (hn : s.size + t.size ≤ 140737488355328) (hB : B ≤ w.heap.size)
    (h : ∀ v' w', RowK B k w' v' (s ++ t) → Below B w w' → Kept k w w' → wpList Tryz.prog ops Q rest (a.put o.dst v') w') : wpList Tryz.prog ops Q (o :: rest) a w := by
  obtain ⟨ht, hsz, hb, i, z, hi, hz, hi1, hi2, hz1⟩ := eByte1
  refine wpList_append_own_at _ hgd sl x 61 ho B 5 i z 1 1 ht hi hz hi1 hi2 hz1 hsz v s.size (Lib.strCells s) hs hR.row.own ⟨b, off, none⟩ t.size cx (Lib.strCells t) hx (by rw [Lib.strCells_length, Nat.mul_one]) ?_ ?_ ?_ ?_ hB ?_
  · intro j u hj
    rw [add_at]
    have hjl : j < t.size := by
      have := (List.getElem?_eq_some_iff.1 hj).1
      rwa [Lib.strCells_length] at this
    rw [hc j hjl, ← hj, Lib.strCells, List.getElem?_map]
    have : t.data.toList[j]? = some (t.data[j]'hjl) := by rw [Array.getElem?_toList]; exact Array.getElem?_eq_getElem hjl
    rw [this]; rfl
  · exact Lib.strCells_oneCell t
  · unfold maxLen; omega
  · omega
  · intro v' w' g1 g2 _ g4
    have hlt := hR.lt
    refine h v' w' ⟨⟨?_⟩, ?_, Nat.lt_of_lt_of_le hR.lt g2.size⟩ (Below.of_append (Below.refl B w) (Fr.of_grown g2) (fun k hk => (owns_block hR.row.own k hk).1) hB) (g2.block k hR.lt (fun e => hR.off e.symm))
    · rw [ByteArray.size_append, strCells_append]
      exact g1
    · rcases g4 with g4 | g4
      · rw [g4]; exact hR.off
      · rw [g4]; intro e; rw [Option.some.injEq] at e; omega
/-- One, two or three bytes, typed out. -/
theorem app_litK {ops : Array Oper} {rest : List Oper} {o : Oper} {a : Act} {Q : Exit → Act → World → Prop} {sl x : Operand} {B k : Nat} {w : World} {v : Value} {s : ByteArray} {us : Array Value} (t : ByteArray) (hgd : o.guard = none)
    (ho : o.op = .call { callee := .builtin .append, args := #[sl, x], argTypes := #[61, 61] }) (hs : a.eval sl = v) (hR : RowK B k w v s) (hu : us = (Lib.strCells t).toArray) (hx : a.eval x = .slice (some ⟨w.heap.size, 0, none⟩) t.size t.size)
    (hn : s.size + t.size ≤ 140737488355328) (hB : B ≤ w.heap.size)
    (h : ∀ v' w', RowK B k w' v' (s ++ t) → Below B w w' → Kept k w w' → wpList Tryz.prog ops Q rest (a.put o.dst v') w') : wpList Tryz.prog ops Q (o :: rest) a (w.alloc (.cells us 5)) := by
  have hlt := hR.lt
  have hK : Kept k w (w.alloc (.cells us 5)) := Below.heap_alloc _ _ _ hlt
  have hb0 : Below B w (w.alloc (.cells us 5)) := (Below.refl B w).alloc hB _
  refine app_bytesK (B := B) (k := k) (t := t) hgd ho hs ⟨⟨hR.row.own.alloc _⟩, hR.off, by simp; omega⟩ hx ?_ hn (by simp; omega) ?_
  · intro j hj
    rw [Nat.zero_add, World.cell?_alloc_new, hu]
    have : t.data.toList[j]? = some (t.data[j]'hj) := by rw [Array.getElem?_toList]; exact Array.getElem?_eq_getElem hj
    rw [List.getElem?_toArray, Lib.strCells, List.getElem?_map, this]; rfl
  · intro v' w' g1 g2 g3
    exact h v' w' g1 (hb0.trans g2) (hK.trans g3)
end Go.Proofs.YtgpfjhligiapdaaGreatDoor
