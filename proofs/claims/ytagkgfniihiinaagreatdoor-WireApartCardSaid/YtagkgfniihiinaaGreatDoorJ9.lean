/- Bytes that lie elsewhere, behind a row of one's own; a buffer beside it stays as it is. -/
import Derived.Test.YtagkgfniihiinaaGreatDoorJ5
import Derived.Test.YtagkgfniihiinaaGreatDoorShort
import Derived.Lib.ItoaNum

namespace Go.Proofs.YtagkgfniihiinaaGreatDoor
open Go.RowKit

theorem add_at (b o j : Nat) : (⟨b, o, none⟩ : Addr).add j = ⟨b, o + j, none⟩ := by
  unfold Addr.add
  split
  · rename_i h; subst h; rfl
  · rfl
/-- A row of bytes of one's own, apart from block k. -/
structure RowK (B k : Nat) (w : World) (v : Value) (s : ByteArray) : Prop where
  row : Row B w v s
  off : v.ownBlock ≠ some k
  lt : k < w.heap.size
/-- Block k is as it was. -/
def Kept (k : Nat) (w w' : World) : Prop := w'.heap[k]? = w.heap[k]?
theorem Kept.refl (k : Nat) (w : World) : Kept k w w := rfl
theorem Kept.trans {k : Nat} {a b c : World} (h : Kept k a b) (g : Kept k b c) : Kept k a c := Eq.trans g h
theorem Kept.cell {k : Nat} {w w' : World} (h : Kept k w w') (o : Nat) : w'.cell? ⟨k, o, none⟩ = w.cell? ⟨k, o, none⟩ := World.cell?_of_block (w := w) h
theorem app_bytesK {ops : Array Oper} {rest : List Oper} {o : Oper} {a : Act} {Q : Exit → Act → World → Prop} {sl x : Operand} {B k b off cx : Nat} {w : World} {v : Value} {s t : ByteArray} (hgd : o.guard = none)
    (ho : o.op = .call { callee := .builtin .append, args := #[sl, x], argTypes := #[27, 27] }) (hs : a.eval sl = v) (hR : RowK B k w v s) (hx : a.eval x = .slice (some ⟨b, off, none⟩) t.size cx)
    (hc : ∀ j (h : j < t.size), w.cell? ⟨b, off + j, none⟩ = some (.int .u8 ((t.data[j]'h).toNat : Int))) (hn : s.size + t.size ≤ 140737488355328) (hB : B ≤ w.heap.size)
    (h : ∀ v' w', RowK B k w' v' (s ++ t) → Below B w w' → Kept k w w' → wpList Tryz.prog ops Q rest (a.put o.dst v') w') : wpList Tryz.prog ops Q (o :: rest) a w := by
  obtain ⟨ht, hsz, hb, i, z, hi, hz, hi1, hi2, hz1⟩ := eByte1
  refine wpList_append_own_at _ hgd sl x 27 ho B 5 i z 1 1 ht hi hz hi1 hi2 hz1 hsz v s.size (Lib.strCells s) hs hR.row.own ⟨b, off, none⟩ t.size cx (Lib.strCells t) hx (by rw [Lib.strCells_length, Nat.mul_one]) ?_ ?_ ?_ ?_ hB ?_
  · intro j u hj
    rw [add_at]
    have hjl : j < t.size := by
      have := (List.getElem?_eq_some_iff.1 hj).1
      rwa [Lib.strCells_length] at this
    rw [hc j hjl, ← hj, Lib.strCells, List.getElem?_map]
    have : t.data.toList[j]? = some (t.data[j]'hjl) := by rw [Array.getElem?_toList]; exact Array.getElem?_eq_getElem hjl
    rw [this]; rfl
  · exact Lib.strCells_oneCell t
  · unfold maxLen; omega
  · omega
  · intro v' w' g1 g2 _ g4
    have hlt := hR.lt
    refine h v' w' ⟨⟨?_⟩, ?_, Nat.lt_of_lt_of_le hR.lt g2.size⟩ (Below.of_append (Below.refl B w) (Fr.of_grown g2) (fun k hk => (owns_block hR.row.own k hk).1) hB) (g2.block k hR.lt (fun e => hR.off e.symm))
    · rw [ByteArray.size_append, strCells_append]
      exact g1
    · rcases g4 with g4 | g4
      · rw [g4]; exact hR.off
      · rw [g4]; intro e; rw [Option.some.injEq] at e; omega
/-- One, two or three bytes, typed out. -/
theorem app_litK {ops : Array Oper} {rest : List Oper} {o : Oper} {a : Act} {Q : Exit → Act → World → Prop} {sl x : Operand} {B k : Nat} {w : World} {v : Value} {s : ByteArray} {us : Array Value} (t : ByteArray) (hgd : o.guard = none)
    (ho : o.op = .call { callee := .builtin .append, args := #[sl, x], argTypes := #[27, 27] }) (hs : a.eval sl = v) (hR : RowK B k w v s) (hu : us = (Lib.strCells t).toArray) (hx : a.eval x = .slice (some ⟨w.heap.size, 0, none⟩) t.size t.size)
    (hn : s.size + t.size ≤ 140737488355328) (hB : B ≤ w.heap.size)
    (h : ∀ v' w', RowK B k w' v' (s ++ t) → Below B w w' → Kept k w w' → wpList Tryz.prog ops Q rest (a.put o.dst v') w') : wpList Tryz.prog ops Q (o :: rest) a (w.alloc (.cells us 5)) := by
  have hlt := hR.lt
  have hK : Kept k w (w.alloc (.cells us 5)) := Below.heap_alloc _ _ _ hlt
  have hb0 : Below B w (w.alloc (.cells us 5)) := (Below.refl B w).alloc hB _
  refine app_bytesK (B := B) (k := k) (t := t) hgd ho hs ⟨⟨hR.row.own.alloc _⟩, hR.off, by simp; omega⟩ hx ?_ hn (by simp; omega) ?_
  · intro j hj
    rw [Nat.zero_add, World.cell?_alloc_new, hu]
    have : t.data.toList[j]? = some (t.data[j]'hj) := by rw [Array.getElem?_toList]; exact Array.getElem?_eq_getElem hj
    rw [List.getElem?_toArray, Lib.strCells, List.getElem?_map, this]; rfl
  · intro v' w' g1 g2 g3
    exact h v' w' g1 (hb0.trans g2) (hK.trans g3)
end Go.Proofs.YtagkgfniihiinaaGreatDoor

/- The texts of floats, as bytes: sign, digits, exponent (no program in sight). -/

namespace Go.Proofs.YtagkgfniihiinaaGreatDoor

/-- A byte for a digit. -/
def dg8 (n : Nat) : UInt8 := UInt8.ofNat (48 + n)
/-- An exponent: its sign and at least two digits. -/
def expL (x : Int) : List UInt8 :=
  (if x < 0 then 45 else 43) :: (if x.natAbs < 10 then [48, dg8 x.natAbs] else if x.natAbs < 100 then [dg8 (x.natAbs / 10), dg8 (x.natAbs % 10)] else [dg8 (x.natAbs / 100), dg8 (x.natAbs / 10 % 10), dg8 (x.natAbs % 10)])
def signL (neg : Bool) : List UInt8 := if neg then [45] else []
/-- Digits D, the point behind dp of them, as 'd.ddde+xx'. -/
def effE (neg : Bool) (D : List UInt8) (dp : Int) : List UInt8 :=
  signL neg ++ [D.headD 48] ++ (if 1 < D.length then 46 :: D.tail else []) ++ [101] ++ expL (if D = [] then 0 else dp - 1)
/-- The same, written out. -/
def effF (neg : Bool) (D : List UInt8) (dp : Int) : List UInt8 :=
  signL neg ++ (if 0 < dp then D.take dp.toNat ++ List.replicate (dp.toNat - D.length) 48 else [48]) ++
    (if dp < D.length then 46 :: (List.replicate (-dp).toNat 48 ++ D.drop dp.toNat) else [])
/-- Of a row of digits those without the noughts behind. -/
def stripZ (l : List UInt8) : List UInt8 := (l.reverse.dropWhile (· == 48)).reverse
/-- A number's digits, and where the point stands. -/
def digL (r : Nat) : List UInt8 := if r = 0 then [] else stripZ (Lib.decDigits (shortN r).1)
def pointN (r : Nat) : Int := if r = 0 then 0 else (Lib.nDigits (shortN r).1 : Int) + (shortN r).2
/-- What real.Text answers at the bits b. -/
def realL (b : Nat) : List UInt8 :=
  if nanF b then [110, 97, 110]
  else if b % 9223372036854775808 = 9218868437227405312 then signL (decide (9223372036854775808 ≤ b)) ++ [105, 110, 102]
  else
    let D := digL (b % 9223372036854775808)
    let dp := pointN (b % 9223372036854775808)
    let x := if D = [] then 0 else dp - 1
    if x < -4 ∨ 21 ≤ x then effE (decide (9223372036854775808 ≤ b)) D dp else effF (decide (9223372036854775808 ≤ b)) D dp
example : realL 4609434218613702656 = [49, 46, 53] := by decide +kernel
example : realL 4599075939470750516 = [48, 46, 51, 48, 48, 48, 48, 48, 48, 48, 48, 48, 48, 48, 48, 48, 48, 48, 52] := by decide +kernel
example : realL 0 = [48] ∧ realL 9223372036854775808 = [45, 48] := by decide +kernel
end Go.Proofs.YtagkgfniihiinaaGreatDoor

/- The texts of floats with so many digits, as bytes (no program in sight). -/
namespace Go.Proofs.YtagkgfniihiinaaGreatDoor

/-- The point and what is behind it. -/
def midL (l : List UInt8) (prec : Nat) : List UInt8 := if 0 < prec then 46 :: (l.tail ++ List.replicate (prec - (l.length - 1)) 48) else []
theorem midL_pos {l : List UInt8} {prec : Nat} (h : 0 < prec) : midL l prec = 46 :: (l.tail ++ List.replicate (prec - (l.length - 1)) 48) := if_pos h
theorem midL_neg {l : List UInt8} {prec : Nat} (h : ¬ 0 < prec) : midL l prec = [] := if_neg h
/-- 'd.ddde+xx' with so many digits behind the point. -/
def effP (neg : Bool) (D : List UInt8) (dp : Int) (prec : Nat) : List UInt8 :=
  signL neg ++ [D.headD 48] ++ midL D prec ++ [101] ++ expL (if D.length = 0 then 0 else dp - 1)
theorem effP_short (neg : Bool) (D : List UInt8) (dp : Int) : effP neg D dp (D.length - 1) = effE neg D dp := by
  unfold effP effE midL
  have e : (D.length = 0) = (D = []) := by rw [List.length_eq_zero_iff]
  simp only [Nat.sub_self, List.replicate_zero, List.append_nil, e]
  by_cases h : 1 < D.length
  · rw [if_pos h, if_pos (by omega)]
  · rw [if_neg h, if_neg (by omega)]
theorem expL_len (x : Int) : 3 ≤ (expL x).length ∧ (expL x).length ≤ 4 := by
  have key : ∀ (b : UInt8) (l : List UInt8), 2 ≤ l.length ∧ l.length ≤ 3 → 3 ≤ (b :: l).length ∧ (b :: l).length ≤ 4 := fun b l h => by rw [List.length_cons]; omega
  unfold expL
  refine key _ _ ?_
  split
  · exact ⟨Nat.le_refl _, by simp⟩
  · split <;> simp
end Go.Proofs.YtagkgfniihiinaaGreatDoor
