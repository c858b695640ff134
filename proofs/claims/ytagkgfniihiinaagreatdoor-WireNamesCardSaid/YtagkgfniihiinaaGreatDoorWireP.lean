/- Values as bytes in the newer protocol: what is written, and that it tells values apart (plain). -/
import Derived.Test.YtagkgfniihiinaaGreatDoorTxtQ
import Derived.Test.YtagkgfniihiinaaGreatDoorJ13
import Derived.Lib.ItoaNum
import Derived.Lib.ItoaLen
namespace Go.Proofs.YtagkgfniihiinaaGreatDoor
def C4 (k : Int) : UInt8 := ([0, 43, 45, 58, 36, 42, 95, 44, 35, 40, 33, 61, 37, 126, 62] : List UInt8).getD k.toNat 0
def Ci (m : UInt8) (t : List UInt8) : List UInt8 := m :: (t ++ [13, 10])
def numL (m : UInt8) (n : Int) : List UInt8 := Ci m (Lib.itoa n)
def longL (m : UInt8) (t : List UInt8) : List UInt8 := numL m t.length ++ (t ++ [13, 10])
def Ft (k : Int) (n : Nat) : Nat := if k = 12 then n / 2 else n
mutual
def V.wire : V -> List UInt8
 | .mk k t i r f l =>
   if k = 1 \/ k = 2 \/ k = 9 then Ci (C4 k) t.data.toList
   else if k = 3 then numL 58 i
   else if k = 7 then Ci 44 (Bd r)
   else if k = 8 then Ci 35 (if f then [116] else [102])
   else if k = 6 then Ci 95 []
   else if k = 4 \/ k = 10 \/ k = 11 then longL (C4 k) t.data.toList
   else if k = 5 \/ k = 12 \/ k = 13 \/ k = 14 then numL (C4 k) (Ft k l.length) ++ V.wireL l
   else []
def V.wireL : List V -> List UInt8
 | [] => []
 | x :: l => x.wire ++ V.wireL l
end
theorem V.wire_eq (v : V) : v.wire = if v.kind = 1 \/ v.kind = 2 \/ v.kind = 9 then Ci (C4 v.kind) v.text.data.toList
   else if v.kind = 3 then numL 58 v.int
   else if v.kind = 7 then Ci 44 (Bd v.real)
   else if v.kind = 8 then Ci 35 (if v.flag then [116] else [102])
   else if v.kind = 6 then Ci 95 []
   else if v.kind = 4 \/ v.kind = 10 \/ v.kind = 11 then longL (C4 v.kind) v.text.data.toList
   else if v.kind = 5 \/ v.kind = 12 \/ v.kind = 13 \/ v.kind = 14 then numL (C4 v.kind) (Ft v.kind v.list.length) ++ V.wireL v.list
   else [] := by cases v; rw [V.wire]; rfl
theorem V.wireL_append (a b : List V) : V.wireL (a ++ b) = V.wireL a ++ V.wireL b := by
 induction a with
 | nil => rfl
 | cons x a ih => rw [List.cons_append, V.wireL, ih, V.wireL, List.append_assoc]
theorem V.wireL_snoc (l : List V) (x : V) : V.wireL (l ++ [x]) = V.wireL l ++ x.wire := by
 rw [V.wireL_append, V.wireL, V.wireL, List.append_nil]
structure OkOut (v : V) : Prop where
 kind : 1 <= v.kind /\ v.kind <= 14
 text : ¬ (v.kind = 1 \/ v.kind = 2 \/ v.kind = 4 \/ v.kind = 9 \/ v.kind = 10 \/ v.kind = 11) -> v.text = ⟨#[]⟩
 int : v.kind ≠ 3 -> v.int = 0
 real : v.kind ≠ 7 -> bitsN v.real = 0
 flag : v.kind ≠ 8 -> v.flag = false
 list : ¬ (v.kind = 5 \/ v.kind = 12 \/ v.kind = 13 \/ v.kind = 14) -> v.list = []
 line : v.kind = 1 \/ v.kind = 2 -> F2 v.text = false
 big : v.kind = 9 -> bigB v.text = true
 even : v.kind = 12 -> v.list.length % 2 = 0
 size : v.text.size <= 4096
theorem empty_text {t : ByteArray} (h : Ev t = true) : t = ⟨#[]⟩ := by
 unfold Ev at h
 rw [List.isEmpty_iff, ByteArray.toList_eq] at h
 exact ByteArray.ext (Array.toList_inj.1 h)
theorem Ao {v : V} (h : okV v = true) : OkOut v := by
 unfold okV at h
 rw [Bool.and_eq_true, Bool.and_eq_true, Bool.and_eq_true, decide_eq_true_eq] at h
 obtain ⟨⟨⟨h1, h2⟩, h3⟩, h4⟩ := h
 unfold Ek at h1
 unfold Cu Cw at h2
 simp only [Bool.and_eq_true, Bool.or_eq_true, decide_eq_true_eq] at h1 h2
 obtain ⟨⟨⟨⟨a1, a2⟩, a3⟩, a4⟩, a5⟩ := h2
 unfold E3 at h3
 refine ⟨h1, fun hn => ?_, fun hn => ?_, fun hn => ?_, fun hn => ?_, fun hn => ?_, fun hk => ?_, fun hk => ?_, fun hk => ?_, h4⟩
 · rcases a1 with a | a
   · unfold Fu at a; exact absurd (of_decide_eq_true a) hn
   · exact empty_text a
 · rcases a2 with a | a
   · unfold numK at a; exact absurd (of_decide_eq_true a) hn
   · exact a
 · rcases a3 with a | a
   · unfold realK at a; exact absurd (of_decide_eq_true a) hn
   · exact a
 · rcases a4 with a | a
   · unfold flagK at a; exact absurd (of_decide_eq_true a) hn
   · simpa using a
 · rcases a5 with a | a
   · unfold Dx at a; exact absurd (of_decide_eq_true a) hn
   · exact List.length_eq_zero_iff.1 a
 · rw [if_pos hk] at h3; simpa using h3
 · rw [if_neg (by omega), if_pos hk] at h3; exact h3
 · rw [if_neg (by omega), if_neg (by omega), if_neg (by omega), if_pos hk] at h3; exact of_decide_eq_true h3
theorem itoa_len21 {n : Int} (h0 : -9223372036854775808 <= n) (h1 : n <= 9223372036854775807) : (Lib.itoa n).length <= 21 := by
 have := Lib.itoa_length_le n h0 h1; omega
theorem Ce (m : UInt8) (t : List UInt8) : (Ci m t).length = t.length + 3 := by unfold Ci; simp
theorem numL_len (m : UInt8) {n : Int} (h0 : -9223372036854775808 <= n) (h1 : n <= 9223372036854775807) : (numL m n).length <= 24 := by
 have := itoa_len21 h0 h1
 unfold numL; rw [Ce]; omega
theorem size_l' (t : ByteArray) : t.data.toList.length = t.size := (C8 t).symm
theorem wire_len (a : V) : ∀ d : Int, a.fine d = true -> a.ranged -> a.count <= 100000 -> 3 <= a.wire.length /\ a.wire.length <= 5000 * a.count := by
 induction a using V.ind with
 | h a ih =>
 intro d ha ra hc
 rw [V.fine_eq, Bool.and_eq_true, Bool.and_eq_true] at ha
 obtain ⟨⟨oa, _⟩, fa⟩ := ha
 replace oa := Ao oa
 rw [V.ranged_eq] at ra
 obtain ⟨ra1, ra2, ra3, ra4⟩ := ra
 have hce := a.count_eq
 have hln := V.length_le a.list
 have key : ∀ (la : List V), (∀ z ∈ la, z ∈ a.list) -> V.fineL la (d - 1) = true -> V.rangedL la -> V.countL la <= 100000 -> (V.wireL la).length <= 5000 * V.countL la := by
   intro la
   induction la with
   | nil => intro _ _ _ _; exact Nat.zero_le _
   | cons p la ihl =>
     intro hm f1 r1 hc
     simp only [V.fineL, Bool.and_eq_true] at f1
     simp only [V.countL] at hc ⊢
     have h1 := (ih p (hm p (List.mem_cons_self ..)) _ f1.1.2 r1.1 (by omega)).2
     have h2 := ihl (fun z hz => hm z (List.mem_cons_of_mem _ hz)) f1.2 r1.2 (by omega)
     rw [V.wireL, List.length_append]; omega
 have hL := key a.list (fun _ h => h) fa ra4 (by omega)
 have hsz := oa.size
 have hkk := oa.kind
 have hn : ∀ m : UInt8, ∀ n : Nat, n <= 100000 -> (numL m (n : Int)).length <= 24 := fun m n hn => numL_len m (by omega) (by omega)
 have hn3 : ∀ (m : UInt8) (n : Int), 3 <= (numL m n).length := fun m n => by unfold numL; rw [Ce]; omega
 have hm : Ft a.kind a.list.length <= 100000 := by unfold Ft; split <;> omega
 have ht := size_l' a.text
 have hr := Ff ra3
 rw [V.wire_eq]
 split
 · rw [Ce]; omega
 split
 · have h1 := numL_len 58 ra1 ra2
   have h2 := hn3 58 a.int
   omega
 split
 · rw [Ce]; omega
 split
 · rw [Ce]; split <;> simp <;> omega
 split
 · rw [Ce]; simp; omega
 split
 · unfold longL
   have h1 := hn (C4 a.kind) a.text.data.toList.length (by omega)
   have h2 := hn3 (C4 a.kind) a.text.data.toList.length
   simp only [List.length_append, List.length_cons, List.length_nil]; omega
 split
 · have h1 := hn (C4 a.kind) (Ft a.kind a.list.length) hm
   have h2 := hn3 (C4 a.kind) (Ft a.kind a.list.length)
   rw [List.length_append]; omega
 · omega
end Go.Proofs.YtagkgfniihiinaaGreatDoor
