/- What a kind has; a value's bits; what a value has that its kind has not. -/
import Derived.Test.YtagkgfniihiinaaGreatDoorVal
import Derived.Test.YtagkgfniihiinaaGreatDoorBase
import Derived.Test.YtagkgfniihiinaaGreatDoorShelf
import Derived.Laws.Runes
import Derived.Outline
import Derived.Laws.RangeAny
import Derived.Deep.LoopGhost
import Derived.Deep.QuietTactic
import Derived.BigQuiet
import Derived.Lib.OthersKept
import Derived.Shelf.Strings.SlTrimAscii
import Derived.Test.YtagkgfniihiinaaGreatDoorV
import Derived.Deep.DeepCutAuto
namespace Go.Proofs.YtagkgfniihiinaaGreatDoor
open Go.RowKit
def Br (k : Int) : Bool := decide (k = 1 \/ k = 2 \/ k = 4 \/ k = 9 \/ k = 10 \/ k = 11)
def numK (k : Int) : Bool := decide (k = 3)
def Cm (k : Int) : Bool := decide (k = 7)
def Cn (k : Int) : Bool := decide (k = 8)
def A7 (k : Int) : Bool := decide (k = 5 \/ k = 12 \/ k = 13 \/ k = 14)
def Bu (k : Int) : Bool := decide (1 <= k /\ k <= 14)
def Ec (s : ByteArray) : Bool := Lib.containsAny s.data.toList [13, 10]
theorem classK (k : Int) : (Br k, numK k, Cm k, Cn k, A7 k) = (true, false, false, false, false) \/ (Br k, numK k, Cm k, Cn k, A7 k) = (false, true, false, false, false) \/ (Br k, numK k, Cm k, Cn k, A7 k) = (false, false, true, false, false) \/
   (Br k, numK k, Cm k, Cn k, A7 k) = (false, false, false, true, false) \/ (Br k, numK k, Cm k, Cn k, A7 k) = (false, false, false, false, true) \/ (Br k, numK k, Cm k, Cn k, A7 k) = (false, false, false, false, false) := by
 simp only [Prod.mk.injEq, Br, numK, Cm, Cn, A7, decide_eq_true_eq, decide_eq_false_iff_not]
 omega
def Ck (s : ByteArray) : Bool := s.toList.isEmpty
def A5 (t n r f l : Bool) (v : V) : Bool := (t || Ck v.text) && (n || decide (v.int = 0)) && (r || decide (E4 v.real = 0)) && (f || !v.flag) && (l || decide (v.list.length = 0))
def Bc (v : V) : Bool := A5 (Br v.kind) (numK v.kind) (Cm v.kind) (Cn v.kind) (A7 v.kind) v
end Go.Proofs.YtagkgfniihiinaaGreatDoor
namespace Go.Proofs.YtagkgfniihiinaaGreatDoor
open Go.RowKit Go.Shelf Go.Lib
abbrev Cj : List UInt8 := [48, 49, 50, 51, 52, 53, 54, 55, 56, 57]
def bigB (s : ByteArray) : Bool := !(Lib.trimPrefix s.data.toList [45]).isEmpty && (Lib.trimS (Lib.trimPrefix s.data.toList [45]) Cj).isEmpty
def Dp (s : ByteArray) : Bool := if h : 3 < s.size then s[3]'h == 58 else false
def Cv (k : Int) (t : ByteArray) (n : Nat) : Bool :=
 if k = 1 \/ k = 2 then !Ec t else if k = 9 then bigB t else if k = 11 then Dp t else if k = 12 then decide (n % 2 = 0) else if k = 14 then decide (0 < n) else true
end Go.Proofs.YtagkgfniihiinaaGreatDoor
namespace Go.Proofs.YtagkgfniihiinaaGreatDoor
mutual
def V.ranged : V -> Prop
 | .mk _ _ i r _ l => -9223372036854775808 <= i /\ i <= 9223372036854775807 /\ r < 18446744073709551616 /\ V.rangedL l
def V.rangedL : List V -> Prop
 | [] => True
 | x :: l => V.ranged x /\ V.rangedL l
end
theorem V.ranged_eq (v : V) : v.ranged ↔ -9223372036854775808 <= v.int /\ v.int <= 9223372036854775807 /\ v.real < 18446744073709551616 /\ V.rangedL v.list := by cases v; simp only [V.ranged, V.int, V.real, V.list]
theorem V.rangedL_mem {l : List V} (h : V.rangedL l) : ∀ x ∈ l, x.ranged := by
 induction l with
 | nil => intro x hx; cases hx
 | cons y l ih =>
   intro x hx
   rcases List.mem_cons.1 hx with rfl | hx
   · exact h.1
   · exact ih h.2 x hx
theorem Bn {l : List V} (h : ∀ x ∈ l, x.ranged) : V.rangedL l := by
 induction l with
 | nil => trivial
 | cons y l ih => exact ⟨h y (by simp), ih fun x hx => h x (by simp [hx])⟩
end Go.Proofs.YtagkgfniihiinaaGreatDoor
namespace Go.Proofs.YtagkgfniihiinaaGreatDoor
open Go.RowKit
def okV (v : V) : Bool := Bu v.kind && Bc v && Cv v.kind v.text v.list.length && decide (v.text.size <= 4096)
mutual
def V.fine : V -> Int -> Bool
 | .mk k t i r f l, d => okV (.mk k t i r f l) && (!A7 k || decide (1 <= d)) && V.fineL l (d - 1)
def V.fineL : List V -> Int -> Bool
 | [], _ => true
 | x :: l, d => decide (x.kind ≠ 14) && V.fine x d && V.fineL l d
end
mutual
def V.sized : V -> Prop
 | .mk _ t _ _ _ l => t.size <= 9223372036854775807 /\ V.sizedL l
def V.sizedL : List V -> Prop
 | [] => True
 | x :: l => V.sized x /\ V.sizedL l
end
theorem V.fine_eq (v : V) (d : Int) : v.fine d = (okV v && (!A7 v.kind || decide (1 <= d)) && V.fineL v.list (d - 1)) := by cases v; simp only [V.fine, V.kind, V.list]
theorem V.sized_eq (v : V) : v.sized ↔ v.text.size <= 9223372036854775807 /\ V.sizedL v.list := by cases v; simp only [V.sized, V.text, V.list]
theorem V.sizedL_mem {l : List V} (h : V.sizedL l) : ∀ x ∈ l, x.sized := by
 induction l with
 | nil => intro x hx; cases hx
 | cons y l ih =>
   intro x hx
   rcases List.mem_cons.1 hx with rfl | hx
   · exact h.1
   · exact ih h.2 x hx
theorem V.fineL_take {l : List V} {d : Int} (h : V.fineL l d = true) (j : Nat) : V.fineL (l.take j) d = true := by
 induction l generalizing j with
 | nil => simp [V.fineL]
 | cons y l ih =>
   simp only [V.fineL, Bool.and_eq_true] at h
   cases j with
   | zero => simp [V.fineL]
   | succ j => simp only [List.take_succ_cons, V.fineL, Bool.and_eq_true]; exact ⟨h.1, ih h.2 j⟩
theorem V.countL_take (l : List V) (j : Nat) : V.countL (l.take j) <= V.countL l := by
 induction l generalizing j with
 | nil => simp
 | cons y l ih =>
   cases j with
   | zero => simp [V.countL]
   | succ j => simp only [List.take_succ_cons, V.countL]; have := ih j; omega
theorem V.count_eq (v : V) : v.count = V.countL v.list + 1 := by cases v; simp only [V.count, V.list]
def checkZ (v : V) : Int := if v.fine 8 = true /\ v.count <= 1000 then 0 else 31
mutual
def V.dep : V -> Int
 | .mk k _ _ _ _ l => if A7 k = true then V.depL l + 1 else 0
def V.depL : List V -> Int
 | [] => 0
 | x :: l => max (V.dep x) (V.depL l)
end
theorem V.dep_eq (v : V) : v.dep = if A7 v.kind = true then V.depL v.list + 1 else 0 := by cases v; rw [V.dep]; rfl
theorem V.depL_snoc (l : List V) (x : V) : V.depL (l ++ [x]) = max (V.depL l) x.dep := by
 induction l with
 | nil =>
   simp only [List.nil_append, V.depL]
   omega
 | cons y l ih => simp only [List.cons_append, V.depL, ih]; omega
theorem V.depL_nonneg (l : List V) : 0 <= V.depL l := by
 induction l with
 | nil => simp [V.depL]
 | cons y l ih => simp only [V.depL]; omega
theorem V.dep_count (v : V) : 0 <= v.dep /\ v.dep <= v.count := by
 induction v using V.ind with
 | h v ih =>
 have hl : V.depL v.list <= V.countL v.list := by
   have key : ∀ l : List V, (∀ x ∈ l, 0 <= x.dep /\ x.dep <= x.count) -> V.depL l <= V.countL l := by
     intro l
     induction l with
     | nil => intro _; simp [V.depL, V.countL]
     | cons y l ih =>
       intro h
       have h1 := h y (by simp)
       have h2 := ih (fun x hx => h x (by simp [hx]))
       simp only [V.depL, V.countL]
       omega
   exact key _ ih
 have h0 := V.depL_nonneg v.list
 rw [V.dep_eq, V.count_eq]
 split <;> omega
end Go.Proofs.YtagkgfniihiinaaGreatDoor
namespace Go.Proofs.YtagkgfniihiinaaGreatDoor
open Go.RowKit Go.Lib
def digB (x : UInt8) : Bool := decide (48 <= x.toNat /\ x.toNat <= 57)
theorem Ee (x : UInt8) : Cj.contains x = digB x := by
 have : ∀ n : Nat, n < 256 -> Cj.contains (UInt8.ofNat n) = digB (UInt8.ofNat n) := by decide +kernel
 have h := this x.toNat x.toNat_lt
 simpa using h
theorem dw_all {α : Type} (p : α -> Bool) (l : List α) : (∀ x ∈ l.dropWhile p, p x = true) ↔ ∀ x ∈ l, p x = true := by
 induction l with
 | nil => simp
 | cons y l ih =>
   by_cases h : p y = true
   · rw [List.dropWhile_cons_of_pos h, ih]
     simp [h]
   · rw [List.dropWhile_cons_of_neg h]
theorem dw_nil {α : Type} (p : α -> Bool) (l : List α) : l.dropWhile p = [] ↔ ∀ x ∈ l, p x = true := by
 induction l with
 | nil => simp
 | cons y l ih =>
   by_cases h : p y = true
   · rw [List.dropWhile_cons_of_pos h, ih]
     simp [h]
   · rw [List.dropWhile_cons_of_neg h]
     simp [h]
theorem trimS_nil (l : List UInt8) : (Lib.trimS l Cj).isEmpty = l.all digB := by
 rw [Bool.eq_iff_iff, List.isEmpty_iff, List.all_eq_true]
 unfold Lib.trimS Lib.trimLeftS Lib.trimRightS
 rw [dw_nil]
 constructor
 · intro h x hx
   have h2 : ∀ y ∈ l.reverse.dropWhile (Cj.contains ·), Cj.contains y = true := fun y hy => h y (by simpa using hy)
   have h3 := (dw_all _ _).1 h2 x (by simpa using hx)
   rw [<- Ee]; exact h3
 · intro h x hx
   have h1 : x ∈ l := by
     have := (List.dropWhile_sublist (fun y => Cj.contains y) (l := l.reverse)).subset (by simpa using hx)
     simpa using this
   show Cj.contains x = true
   rw [Ee]; exact h x h1
def Dg (t : ByteArray) : Nat := if t.data.toList.head? = some 45 then 1 else 0
theorem bigB_eq (t : ByteArray) : bigB t = (decide (Dg t ≠ t.size) && (t.data.toList.drop (Dg t)).all digB) := by
 have hp : Lib.trimPrefix t.data.toList [45] = t.data.toList.drop (Dg t) := by
   unfold Lib.trimPrefix Dg
   cases h : t.data.toList with
   | nil => simp [Lib.hasPrefix]
   | cons y l =>
     by_cases hy : y = 45
     · subst hy; simp [Lib.hasPrefix]
     · simp [Lib.hasPrefix, hy]
       intro h'; exact absurd h'.symm hy
 unfold bigB
 rw [hp, trimS_nil]
 congr 1
 rw [Bool.eq_iff_iff]
 have hl : t.data.toList.length = t.size := by simp
 have hle : Dg t <= t.size := by
   unfold Dg
   split
   · rename_i h
     cases hh : t.data.toList with
     | nil => rw [hh] at h; cases h
     | cons y l => rw [hh] at hl; simp at hl; omega
   · omega
 simp [List.drop_eq_nil_iff]
 omega
end Go.Proofs.YtagkgfniihiinaaGreatDoor
