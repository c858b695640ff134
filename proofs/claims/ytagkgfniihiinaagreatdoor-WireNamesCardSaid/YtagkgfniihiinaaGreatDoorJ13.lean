/- Has a value nothing but what its kind has? -/
import Derived.Test.YtagkgfniihiinaaGreatDoorJ2
import Derived.Test.YtagkgfniihiinaaGreatDoorBase
import Derived.Test.YtagkgfniihiinaaGreatDoorShelf
import Derived.Laws.Runes
import Derived.Outline
import Derived.Laws.RangeAny
import Derived.Deep.LoopGhost
import Derived.Deep.QuietTactic
import Derived.BigQuiet
import Derived.Lib.OthersKept
import Derived.Shelf.Strings.SlTrimAscii
import Derived.Test.YtagkgfniihiinaaGreatDoorRTxt
import Derived.Deep.DeepCutAuto
import Derived.Test.YtagkgfniihiinaaGreatDoorJ12
import Derived.Test.YtagkgfniihiinaaGreatDoorV
namespace Go.Proofs.YtagkgfniihiinaaGreatDoor
open Go.RowKit
def Ev (s : ByteArray) : Bool := s.toList.isEmpty
def Cw (t n r f l : Bool) (v : V) : Bool := (t || Ev v.text) && (n || decide (v.int = 0)) && (r || decide (bitsN v.real = 0)) && (f || !v.flag) && (l || decide (v.list.length = 0))
def Cu (v : V) : Bool := Cw (Fu v.kind) (numK v.kind) (realK v.kind) (flagK v.kind) (Dx v.kind) v
def F2 (s : ByteArray) : Bool := Lib.containsAny s.data.toList [13, 10]
end Go.Proofs.YtagkgfniihiinaaGreatDoor
namespace Go.Proofs.YtagkgfniihiinaaGreatDoor
open Go.RowKit Go.Shelf Go.Lib
abbrev digits10 : List UInt8 := [48, 49, 50, 51, 52, 53, 54, 55, 56, 57]
def bigB (s : ByteArray) : Bool := !(Lib.trimPrefix s.data.toList [45]).isEmpty && (Lib.trimS (Lib.trimPrefix s.data.toList [45]) digits10).isEmpty
def colonB (s : ByteArray) : Bool := if h : 3 < s.size then s[3]'h == 58 else false
def E3 (k : Int) (t : ByteArray) (n : Nat) : Bool :=
 if k = 1 \/ k = 2 then !F2 t else if k = 9 then bigB t else if k = 11 then colonB t else if k = 12 then decide (n % 2 = 0) else if k = 14 then decide (0 < n) else true
end Go.Proofs.YtagkgfniihiinaaGreatDoor
namespace Go.Proofs.YtagkgfniihiinaaGreatDoor
def Dq (r : Nat) : List UInt8 := if r = 9218868437227405312 then [105, 110, 102] else if expN r < -4 \/ 21 <= expN r then effE false (digL r) (A1 r) else effF false (digL r) (A1 r)
theorem effE_sign (neg : Bool) (D : List UInt8) (dp : Int) : effE neg D dp = A4 neg ++ effE false D dp := by unfold effE; simp [A4]
theorem effF_sign (neg : Bool) (D : List UInt8) (dp : Int) : effF neg D dp = A4 neg ++ effF false D dp := by unfold effF; simp [A4]
theorem realL_bare {n : Nat} (hn : nanF n = false) : Bd n = A4 (decide (9223372036854775808 <= n)) ++ Dq (n % 9223372036854775808) := by
 by_cases h : n % 9223372036854775808 = 9218868437227405312
 · rw [F7 hn h]; unfold Dq; rw [if_pos h]
 · rw [F4 hn h]; unfold Dq; rw [if_neg h]
   split
   · exact effE_sign _ _ _
   · exact effF_sign _ _ _
theorem nDig_le : ∀ k u : Nat, u < 10 ^ (k + 1) -> Lib.nDigits u <= k + 1
 | 0, u, h => by rw [Lib.nDigits_small (by simpa using h)]; exact Nat.le_refl _
 | k + 1, u, h => by
   by_cases h1 : u < 10
   · rw [Lib.nDigits_small h1]; omega
   · rw [Lib.nDigits_big h1]
     have := nDig_le k (u / 10) (by rw [Nat.pow_succ] at h; omega)
     omega
end Go.Proofs.YtagkgfniihiinaaGreatDoor
namespace Go.Proofs.YtagkgfniihiinaaGreatDoor
open Go.RowKit
def okV (v : V) : Bool := Ek v.kind && Cu v && E3 v.kind v.text v.list.length && decide (v.text.size <= 4096)
mutual
def V.fine : V -> Int -> Bool
 | .mk k t i r f l, d => okV (.mk k t i r f l) && (!Dx k || decide (1 <= d)) && V.fineL l (d - 1)
def V.fineL : List V -> Int -> Bool
 | [], _ => true
 | x :: l, d => decide (x.kind ≠ 14) && V.fine x d && V.fineL l d
end
theorem V.fine_eq (v : V) (d : Int) : v.fine d = (okV v && (!Dx v.kind || decide (1 <= d)) && V.fineL v.list (d - 1)) := by cases v; simp only [V.fine, V.kind, V.list]
theorem V.fineL_take {l : List V} {d : Int} (h : V.fineL l d = true) (j : Nat) : V.fineL (l.take j) d = true := by
 induction l generalizing j with
 | nil => simp [V.fineL]
 | cons y l ih =>
   simp only [V.fineL, Bool.and_eq_true] at h
   cases j with
   | zero => simp [V.fineL]
   | succ j => simp only [List.take_succ_cons, V.fineL, Bool.and_eq_true]; exact ⟨h.1, ih h.2 j⟩
theorem V.countL_take (l : List V) (j : Nat) : V.countL (l.take j) <= V.countL l := by
 induction l generalizing j with
 | nil => simp
 | cons y l ih =>
   cases j with
   | zero => simp [V.countL]
   | succ j => simp only [List.take_succ_cons, V.countL]; have := ih j; omega
theorem V.count_eq (v : V) : v.count = V.countL v.list + 1 := by cases v; simp only [V.count, V.list]
end Go.Proofs.YtagkgfniihiinaaGreatDoor
namespace Go.Proofs.YtagkgfniihiinaaGreatDoor
def C2 : List UInt8 -> Bool -> List UInt8 -> Nat -> Bool × List UInt8 × Nat × List UInt8
 | [], d, L, m => (d, L, m, [])
 | c :: l, d, L, m => if c.toNat = 46 then (if d then (d, L, m, c :: l) else C2 l true L 0) else if isD c then C2 l d (L ++ [c]) (m + 1) else (d, L, m, c :: l)
theorem C1 : ∀ {D : List UInt8} {l : List UInt8} {d : Bool} {L : List UInt8} {m : Nat}, (∀ c ∈ D, isD c = true) -> C2 (D ++ l) d L m = C2 l d (L ++ D) (m + D.length)
 | [], l, d, L, m, _ => by simp
 | c :: D, l, d, L, m, h => by
   have hc := h c (List.mem_cons_self ..)
   have h46 : c.toNat ≠ 46 := fun e => by simp [isD, e] at hc
   rw [List.cons_append, C2, if_neg h46, if_pos hc, C1 (fun x hx => h x (List.mem_cons_of_mem _ hx)), List.append_assoc, List.length_cons]
   congr 1; omega
def okC (c : UInt8) : Prop := isD c = true \/ c.toNat = 46 \/ c.toNat = 101 \/ c.toNat = 43 \/ c.toNat = 45
inductive ExpAt : List UInt8 -> Int -> Prop
 | none : ExpAt [] 0
 | bare {E : List UInt8} : E ≠ [] -> (∀ c ∈ E, isD c = true) -> ExpAt (101 :: E) (capE E)
 | plus {E : List UInt8} : E ≠ [] -> (∀ c ∈ E, isD c = true) -> ExpAt (101 :: 43 :: E) (capE E)
 | minus {E : List UInt8} : E ≠ [] -> (∀ c ∈ E, isD c = true) -> ExpAt (101 :: 45 :: E) (-(capE E : Int))
structure FTxt (s : ByteArray) (neg : Bool) (d : Bool) (L : List UInt8) (m : Nat) (x : Int) : Prop where
 form : ∃ c body rest, s.data.toList = (if neg then [45] else []) ++ c :: body /\ isD c = true /\ C2 (c :: body) false [] 0 = (d, L, m, rest) /\ ExpAt rest x /\ (∀ b ∈ c :: body, okC b)
 size : s.size <= 1000
 ne : L ≠ []
def expF (d : Bool) (L : List UInt8) (m : Nat) (x : Int) : Int := if Cn L = 0 then 0 else (if d then (ndF L : Int) - m else ndF L) + x - (min 19 (ndF L) : Nat)
end Go.Proofs.YtagkgfniihiinaaGreatDoor
namespace Go.Proofs.YtagkgfniihiinaaGreatDoor
open Go.RowKit
theorem crlf_none {t : ByteArray} (h : Lib.NoAny t.data.toList [13, 10] t.size) : F2 t = false := by
 unfold F2 Lib.containsAny
 rw [Lib.indexAny_none (by rw [<- Lib.size_eq]; exact h)]
 decide
end Go.Proofs.YtagkgfniihiinaaGreatDoor
namespace Go.Proofs.YtagkgfniihiinaaGreatDoor
mutual
def V.ranged : V -> Prop
 | .mk _ _ i r _ l => -9223372036854775808 <= i /\ i <= 9223372036854775807 /\ r < 18446744073709551616 /\ V.rangedL l
def V.rangedL : List V -> Prop
 | [] => True
 | x :: l => V.ranged x /\ V.rangedL l
end
theorem V.ranged_eq (v : V) : v.ranged ↔ -9223372036854775808 <= v.int /\ v.int <= 9223372036854775807 /\ v.real < 18446744073709551616 /\ V.rangedL v.list := by cases v; simp only [V.ranged, V.int, V.real, V.list]
theorem V.rangedL_mem {l : List V} (h : V.rangedL l) : ∀ x ∈ l, x.ranged := by
 induction l with
 | nil => intro x hx; cases hx
 | cons y l ih =>
   intro x hx
   rcases List.mem_cons.1 hx with rfl | hx
   · exact h.1
   · exact ih h.2 x hx
theorem Bm {l : List V} (h : ∀ x ∈ l, x.ranged) : V.rangedL l := by
 induction l with
 | nil => trivial
 | cons y l ih => exact ⟨h y (by simp), ih fun x hx => h x (by simp [hx])⟩
end Go.Proofs.YtagkgfniihiinaaGreatDoor
