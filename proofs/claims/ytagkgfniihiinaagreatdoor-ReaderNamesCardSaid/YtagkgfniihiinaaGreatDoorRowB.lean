/- A row of bytes of one's own: texts and bytes behind it. -/
import Derived.Test.YtagkgfniihiinaaGreatDoorRoom
import Derived.Test.YtagkgfniihiinaaGreatDoorProg
import Derived.Lib.AppendStr
import Derived.Lib.SmallJoins
namespace Go.Proofs.YtagkgfniihiinaaGreatDoor
open Go.RowKit Go.Joins

theorem eByte1 : Elem Tryz.prog 27 5 1 1 := elem_of Tryz.underlying27 (by decide) (by decide) (by kernel_rfl)
/-- A row of bytes of one's own. -/
structure Row (B : Nat) (w : World) (v : Value) (s : ByteArray) : Prop where
  own : w.ownsRow B 5 1 v s.size (Lib.strCells s)
theorem strCells_append (s t : ByteArray) : Lib.strCells (s ++ t) = Lib.strCells s ++ Lib.strCells t := by
  simp [Lib.strCells, ByteArray.data_append]
theorem Row.nil (B : Nat) (w : World) : Row B w (.slice none 0 0) ⟨#[]⟩ := ⟨World.ownsRow_nil _ _ _ _⟩
theorem Row.below {B B' : Nat} {w w' : World} {v : Value} {s : ByteArray} (h : Row B w v s) (hb : Below B' w w') (hB : w.heap.size ≤ B') : Row B w' v s :=
  ⟨owns_below h.own hb hB⟩
theorem info_byte : ∃ i, Tryz.prog.info? 5 = some i ∧ i.zero = some (.int .u8 0) ∧ i.size = 1 ∧ i.bytes = 1 := by
  obtain ⟨i, hi⟩ := Option.isSome_iff_exists.1 (show (Tryz.prog.info? 5).isSome = true by kernel_rfl)
  have h1 : (Tryz.prog.info? 5).map (·.zero) = some (some (.int .u8 0)) := by kernel_rfl
  have h2 : (Tryz.prog.info? 5).map (·.size) = some 1 := by kernel_rfl
  have h3 : (Tryz.prog.info? 5).map (·.bytes) = some 1 := by kernel_rfl
  rw [hi] at h1 h2 h3
  exact ⟨i, hi, by simpa using h1, by simpa using h2, by simpa using h3⟩
/-- A text behind a row of one's own. -/
theorem app_text {ops : Array Oper} {rest : List Oper} {o : Oper} {a : Act} {Q : Exit → Act → World → Prop} {sl x : Operand} {B : Nat} {w : World} {v : Value} {s t : ByteArray} (hgd : o.guard = none)
    (ho : o.op = .call { callee := .builtin .append, args := #[sl, x], argTypes := #[27, 9] }) (hs : a.eval sl = v) (hR : Row B w v s) (hx : a.eval x = .string t) (hn : s.size + t.size ≤ 140737488355328) (hB : B ≤ w.heap.size)
    (h : ∀ v' w', Row B w' v' (s ++ t) → Below B w w' → wpList Tryz.prog ops Q rest (a.put o.dst v') w') : wpList Tryz.prog ops Q (o :: rest) a w := by
  obtain ⟨i, h1, h2, h3, h4⟩ := info_byte
  refine Lib.wpList_append_own_string w hgd sl x 27 9 ho B 5 i Tryz.underlying27 Tryz.underlying9 h1 h2 h3 h4 v s.size (Lib.strCells s) hs hR.own t hx (by unfold maxLen; omega) hn hB ?_
  intro v' w' g1 g2 _
  refine h v' w' ⟨?_⟩ (Below.of_append (Below.refl B w) (Fr.of_grown g2) (fun k hk => (owns_block hR.own k hk).1) hB)
  rw [ByteArray.size_append, strCells_append]
  exact g1
/-- A byte behind a row of one's own. -/
theorem app_byte {ops : Array Oper} {rest : List Oper} {o : Oper} {a : Act} {Q : Exit → Act → World → Prop} {sl x : Operand} {B : Nat} {w : World} {v : Value} {s : ByteArray} {b : UInt8} (hgd : o.guard = none)
    (ho : o.op = .call { callee := .builtin .append, args := #[sl, x], argTypes := #[27, 27] }) (hs : a.eval sl = v) (hR : Row B w v s) (hx : a.eval x = .slice (some ⟨w.heap.size, 0, none⟩) 1 1) (hn : s.size + 1 ≤ 140737488355328) (hB : B ≤ w.heap.size)
    (h : ∀ v' w', Row B w' v' (s ++ ⟨#[b]⟩) → Below B w w' → wpList Tryz.prog ops Q rest (a.put o.dst v') w') : wpList Tryz.prog ops Q (o :: rest) a (w.alloc (.cells #[.int .u8 (b.toNat : Int)] 5)) := by
  refine append_room hgd ho eByte1 hs hR.own hx rfl rfl hn (by omega) hB ?_
  intro v' w' g1 g2
  refine h v' w' ⟨?_⟩ (Below.of_append (Below.refl B w) g2 (fun k hk => (owns_block hR.own k hk).1) hB)
  rw [ByteArray.size_append, strCells_append]
  exact g1
theorem ba_nil_right (s : ByteArray) : s ++ (⟨#[]⟩ : ByteArray) = s := by apply ByteArray.ext; simp [ByteArray.data_append]
theorem ba_nil_left (s : ByteArray) : (⟨#[]⟩ : ByteArray) ++ s = s := by apply ByteArray.ext; simp [ByteArray.data_append]
end Go.Proofs.YtagkgfniihiinaaGreatDoor
