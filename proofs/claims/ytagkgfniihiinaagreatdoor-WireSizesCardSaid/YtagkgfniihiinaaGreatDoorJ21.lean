/- Values as bytes in the newer protocol: what is written, and that it tells values apart (plain). -/
import Derived.Test.YtagkgfniihiinaaGreatDoorTxtQ
import Derived.Test.YtagkgfniihiinaaGreatDoorOwn03
import Derived.Test.YtagkgfniihiinaaGreatDoorJ18
import Derived.Lib.ItoaNum
import Derived.Lib.ItoaLen
import Derived.Test.YtagkgfniihiinaaGreatDoorRowN
import Derived.Test.YtagkgfniihiinaaGreatDoorVal
import Derived.Test.YtagkgfniihiinaaGreatDoorJ23
namespace Go.Proofs.YtagkgfniihiinaaGreatDoor
def Dq (k : Int) : UInt8 := ([0, 43, 45, 58, 36, 42, 95, 44, 35, 40, 33, 61, 37, 126, 62] : List UInt8).getD k.toNat 0
def Cu (m : UInt8) (t : List UInt8) : List UInt8 := m :: (t ++ [13, 10])
def numL (m : UInt8) (n : Int) : List UInt8 := Cu m (Lib.itoa n)
def longL (m : UInt8) (t : List UInt8) : List UInt8 := numL m t.length ++ (t ++ [13, 10])
def Gf (k : Int) (n : Nat) : Nat := if k = 12 then n / 2 else n
mutual
def V.wire : V -> List UInt8
 | .mk k t i r f l =>
   if k = 1 \/ k = 2 \/ k = 9 then Cu (Dq k) t.data.toList
   else if k = 3 then numL 58 i
   else if k = 7 then Cu 44 (Bh r)
   else if k = 8 then Cu 35 (if f then [116] else [102])
   else if k = 6 then Cu 95 []
   else if k = 4 \/ k = 10 \/ k = 11 then longL (Dq k) t.data.toList
   else if k = 5 \/ k = 12 \/ k = 13 \/ k = 14 then numL (Dq k) (Gf k l.length) ++ V.wireL l
   else []
def V.wireL : List V -> List UInt8
 | [] => []
 | x :: l => x.wire ++ V.wireL l
end
theorem V.wire_eq (v : V) : v.wire = if v.kind = 1 \/ v.kind = 2 \/ v.kind = 9 then Cu (Dq v.kind) v.text.data.toList
   else if v.kind = 3 then numL 58 v.int
   else if v.kind = 7 then Cu 44 (Bh v.real)
   else if v.kind = 8 then Cu 35 (if v.flag then [116] else [102])
   else if v.kind = 6 then Cu 95 []
   else if v.kind = 4 \/ v.kind = 10 \/ v.kind = 11 then longL (Dq v.kind) v.text.data.toList
   else if v.kind = 5 \/ v.kind = 12 \/ v.kind = 13 \/ v.kind = 14 then numL (Dq v.kind) (Gf v.kind v.list.length) ++ V.wireL v.list
   else [] := by cases v; rw [V.wire]; rfl
theorem V.wireL_append (a b : List V) : V.wireL (a ++ b) = V.wireL a ++ V.wireL b := by
 induction a with
 | nil => rfl
 | cons x a ih => rw [List.cons_append, V.wireL, ih, V.wireL, List.append_assoc]
theorem V.wireL_snoc (l : List V) (x : V) : V.wireL (l ++ [x]) = V.wireL l ++ x.wire := by
 rw [V.wireL_append, V.wireL, V.wireL, List.append_nil]
structure OkOut (v : V) : Prop where
 kind : 1 <= v.kind /\ v.kind <= 14
 text : ¬ (v.kind = 1 \/ v.kind = 2 \/ v.kind = 4 \/ v.kind = 9 \/ v.kind = 10 \/ v.kind = 11) -> v.text = ⟨#[]⟩
 int : v.kind ≠ 3 -> v.int = 0
 real : v.kind ≠ 7 -> E4 v.real = 0
 flag : v.kind ≠ 8 -> v.flag = false
 list : ¬ (v.kind = 5 \/ v.kind = 12 \/ v.kind = 13 \/ v.kind = 14) -> v.list = []
 line : v.kind = 1 \/ v.kind = 2 -> Ec v.text = false
 big : v.kind = 9 -> bigB v.text = true
 even : v.kind = 12 -> v.list.length % 2 = 0
 size : v.text.size <= 4096
theorem empty_text {t : ByteArray} (h : Ck t = true) : t = ⟨#[]⟩ := by
 unfold Ck at h
 rw [List.isEmpty_iff, ByteArray.toList_eq] at h
 exact ByteArray.ext (Array.toList_inj.1 h)
theorem Ao {v : V} (h : okV v = true) : OkOut v := by
 unfold okV at h
 rw [Bool.and_eq_true, Bool.and_eq_true, Bool.and_eq_true, decide_eq_true_eq] at h
 obtain ⟨⟨⟨h1, h2⟩, h3⟩, h4⟩ := h
 unfold Bu at h1
 unfold Bc A5 at h2
 simp only [Bool.and_eq_true, Bool.or_eq_true, decide_eq_true_eq] at h1 h2
 obtain ⟨⟨⟨⟨a1, a2⟩, a3⟩, a4⟩, a5⟩ := h2
 unfold Cv at h3
 refine ⟨h1, fun hn => ?_, fun hn => ?_, fun hn => ?_, fun hn => ?_, fun hn => ?_, fun hk => ?_, fun hk => ?_, fun hk => ?_, h4⟩
 · rcases a1 with a | a
   · unfold Br at a; exact absurd (of_decide_eq_true a) hn
   · exact empty_text a
 · rcases a2 with a | a
   · unfold numK at a; exact absurd (of_decide_eq_true a) hn
   · exact a
 · rcases a3 with a | a
   · unfold Cm at a; exact absurd (of_decide_eq_true a) hn
   · exact a
 · rcases a4 with a | a
   · unfold Cn at a; exact absurd (of_decide_eq_true a) hn
   · simpa using a
 · rcases a5 with a | a
   · unfold A7 at a; exact absurd (of_decide_eq_true a) hn
   · exact List.length_eq_zero_iff.1 a
 · rw [if_pos hk] at h3; simpa using h3
 · rw [if_neg (by omega), if_pos hk] at h3; exact h3
 · rw [if_neg (by omega), if_neg (by omega), if_neg (by omega), if_pos hk] at h3; exact of_decide_eq_true h3
theorem itoa_len21 {n : Int} (h0 : -9223372036854775808 <= n) (h1 : n <= 9223372036854775807) : (Lib.itoa n).length <= 21 := by
 have := Lib.itoa_length_le n h0 h1; omega
theorem Cr (m : UInt8) (t : List UInt8) : (Cu m t).length = t.length + 3 := by unfold Cu; simp
theorem numL_len (m : UInt8) {n : Int} (h0 : -9223372036854775808 <= n) (h1 : n <= 9223372036854775807) : (numL m n).length <= 24 := by
 have := itoa_len21 h0 h1
 unfold numL; rw [Cr]; omega
theorem size_l' (t : ByteArray) : t.data.toList.length = t.size := (Cy t).symm
theorem Fo (a : V) : ∀ d : Int, a.fine d = true -> a.ranged -> a.count <= 100000 -> 3 <= a.wire.length /\ a.wire.length <= 5000 * a.count := by
 induction a using V.ind with
 | h a ih =>
 intro d ha ra hc
 rw [V.fine_eq, Bool.and_eq_true, Bool.and_eq_true] at ha
 obtain ⟨⟨oa, _⟩, fa⟩ := ha
 replace oa := Ao oa
 rw [V.ranged_eq] at ra
 obtain ⟨ra1, ra2, ra3, ra4⟩ := ra
 have hce := a.count_eq
 have hln := V.length_le a.list
 have key : ∀ (la : List V), (∀ z ∈ la, z ∈ a.list) -> V.fineL la (d - 1) = true -> V.rangedL la -> V.countL la <= 100000 -> (V.wireL la).length <= 5000 * V.countL la := by
   intro la
   induction la with
   | nil => intro _ _ _ _; exact Nat.zero_le _
   | cons p la ihl =>
     intro hm f1 r1 hc
     simp only [V.fineL, Bool.and_eq_true] at f1
     simp only [V.countL] at hc ⊢
     have h1 := (ih p (hm p (List.mem_cons_self ..)) _ f1.1.2 r1.1 (by omega)).2
     have h2 := ihl (fun z hz => hm z (List.mem_cons_of_mem _ hz)) f1.2 r1.2 (by omega)
     rw [V.wireL, List.length_append]; omega
 have hL := key a.list (fun _ h => h) fa ra4 (by omega)
 have hsz := oa.size
 have hkk := oa.kind
 have hn : ∀ m : UInt8, ∀ n : Nat, n <= 100000 -> (numL m (n : Int)).length <= 24 := fun m n hn => numL_len m (by omega) (by omega)
 have hn3 : ∀ (m : UInt8) (n : Int), 3 <= (numL m n).length := fun m n => by unfold numL; rw [Cr]; omega
 have hm : Gf a.kind a.list.length <= 100000 := by unfold Gf; split <;> omega
 have ht := size_l' a.text
 have hr := F3 ra3
 rw [V.wire_eq]
 split
 · rw [Cr]; omega
 split
 · have h1 := numL_len 58 ra1 ra2
   have h2 := hn3 58 a.int
   omega
 split
 · rw [Cr]; omega
 split
 · rw [Cr]; split <;> simp <;> omega
 split
 · rw [Cr]; simp; omega
 split
 · unfold longL
   have h1 := hn (Dq a.kind) a.text.data.toList.length (by omega)
   have h2 := hn3 (Dq a.kind) a.text.data.toList.length
   simp only [List.length_append, List.length_cons, List.length_nil]; omega
 split
 · have h1 := hn (Dq a.kind) (Gf a.kind a.list.length) hm
   have h2 := hn3 (Dq a.kind) (Gf a.kind a.list.length)
   rw [List.length_append]; omega
 · omega
end Go.Proofs.YtagkgfniihiinaaGreatDoor
namespace Go.Proofs.YtagkgfniihiinaaGreatDoor
open Go.RowKit Go.Joins
def Er (B : Nat) (w : World) : Addr -> Option Value := fun a => if a.block < B then w.cell? a else none
theorem Fu {B : Nat} {w : World} {a : Addr} {u : Value} (h : Er B w a = some u) : w.cell? a = some u /\ a.block < B := by
 unfold Er at h
 split at h
 · exact ⟨h, ‹_›⟩
 · cases h
theorem Ak {B : Nat} {w w' : World} (hb : Below B w w') : ∀ a u, Er B w a = some u -> Er B w' a = some u := fun a u h => by
 obtain ⟨h1, h2⟩ := Fu h
 unfold Er
 rw [if_pos h2, hb.cell h2]; exact h1
theorem Aj {B : Nat} {w : World} : ∀ a u, Er B w a = some u -> w.cell? a = some u := fun _ _ h => (Fu h).1
theorem older_of {B : Nat} {w : World} (hB : w.heap.size <= B) : ∀ a u, w.cell? a = some u -> Er B w a = some u := fun a u h => by
 unfold Er
 rw [if_pos (Nat.lt_of_lt_of_le (World.block_lt_of_cell? _ _ h) hB)]; exact h
structure LaidV (B : Nat) (w : World) : Prop where
 nums : Laid B w
 flo : ∃ W0 : World, W0.heap.size <= B /\ Flo W0 /\ Below W0.heap.size W0 w
theorem LaidV.below {B B' : Nat} {w w' : World} (h : LaidV B w) (hb : Below B' w w') (hB : B <= B') : LaidV B w' :=
 ⟨h.nums.below hb hB, let ⟨W0, h1, h2, h3⟩ := h.flo; ⟨W0, h1, h2, h3.trans (hb.mono (Nat.le_trans h1 hB))⟩⟩
theorem LaidV.of {w : World} (h : Nums w) (hf : Flo w) : LaidV w.heap.size w := ⟨Laid.of h, w, Nat.le_refl _, hf, Below.refl _ _⟩
theorem LaidV.mono {B B' : Nat} {w : World} (h : LaidV B w) (hB : B <= B') : LaidV B' w := ⟨h.nums.mono hB, let ⟨W0, h1, h2, h3⟩ := h.flo; ⟨W0, Nat.le_trans h1 hB, h2, h3⟩⟩
theorem flo_below {w w' : World} (h : Flo w) (hb : Below w.heap.size w w') : Flo w' := ⟨h.pows.below hb h.pows.lt, Go.Joins.tab_stays Bv h.tens hb (Nat.le_refl _)⟩
theorem LaidV.isFlo {B : Nat} {w : World} (h : LaidV B w) : Flo w := by
 obtain ⟨W0, h1, h2, h3⟩ := h.flo
 exact flo_below h2 h3
def D7 (m : UInt8) (t : ByteArray) : ByteArray := ⟨#[m]⟩ ++ t ++ ⟨#[13, 10]⟩
theorem B3 (a b : List UInt8) : (⟨(a ++ b).toArray⟩ : ByteArray) = ⟨a.toArray⟩ ++ ⟨b.toArray⟩ := by
 apply ByteArray.ext
 simp [ByteArray.data_append]
theorem Da (m : UInt8) (t : ByteArray) : (⟨(Cu m t.data.toList).toArray⟩ : ByteArray) = D7 m t := by
 apply ByteArray.ext
 apply Array.toList_inj.1
 simp [D7, Cu, ByteArray.data_append]
theorem Cq (m : UInt8) (n : Int) : (⟨(numL m n).toArray⟩ : ByteArray) = numB m n := by
 apply ByteArray.ext
 apply Array.toList_inj.1
 simp [numB, numL, Cu, ByteArray.data_append]
theorem Et (m : UInt8) (t : ByteArray) : (⟨(longL m t.data.toList).toArray⟩ : ByteArray) = Cx m t := by
 unfold longL Cx
 rw [B3, Cq, B3]
 have e : ((t.data.toList.length : Nat) : Int) = (t.size : Int) := by rw [size_l']
 rw [e, ByteArray.append_assoc]
set_option maxRecDepth 100000 in
set_option maxHeartbeats 1600000 in
theorem Cz {B : Nat} {w : World} {v : Value} {s : ByteArray} (m : UInt8) (t : ByteArray) (hR : Row B w v s) (hB : B <= w.heap.size) (hn : s.size <= 1000000000000) (ht : t.size <= 1000000000000) :
   Calls Tryz.prog 52 #[v, .int .u8 (m.toNat : Int), .string t] w fun e w' => ∃ v', e = .returned v' /\ Row B w' v' (s ++ D7 m t) /\ Below B w w' /\ NB w w' := by
 have hn1 : s.size + 1 <= 140737488355328 := by omega
 have hline : D7 m t = ⟨#[m]⟩ ++ t ++ ⟨#[13, 10]⟩ := rfl
 have e1 : (⟨#[m]⟩ : ByteArray).size = 1 := rfl
 have e2 : (⟨#[13, 10]⟩ : ByteArray).size = 2 := rfl
 have hn2 : (s ++ ⟨#[m]⟩).size + t.size <= 140737488355328 := by rw [ByteArray.size_append, e1]; omega
 have hn3 : (s ++ ⟨#[m]⟩ ++ t).size + (⟨#[13, 10]⟩ : ByteArray).size <= 140737488355328 := by rw [ByteArray.size_append, ByteArray.size_append, e1, e2]; omega
 clear e1 e2
 replace hR := Hd hR
 replace hline := Hd hline
 go_enter Tryz.func52, Tryz.ntmps52
 go_wp2_with (at_builtin; refine Ga rfl rfl rfl hR.out rfl hn1 hB ?_)
 intro v1 w1 hR1 hb1 n1
 replace n1 := Hd n1
 have hB1 : B <= w1.heap.size := Nat.le_trans hB hb1.size
 replace hR1 := Hd hR1
 replace hb1 := Hd hb1
 go_wp2_with (at_builtin; refine B6 rfl rfl rfl hR1.out rfl hn2 hB1 ?_)
 intro v3 w3 hR3 hb3 n3
 replace n3 := Hd (n1.out.trans n3)
 have hb13 := hb1.out.trans hb3
 have hB3 : B <= w3.heap.size := Nat.le_trans hB1 hb3.size
 clear hR1 hb1 hb3
 replace hR3 := Hd hR3
 replace hb13 := Hd hb13
 go_wp2_with (at_builtin; refine B6 rfl rfl rfl hR3.out rfl hn3 hB3 ?_)
 intro v4 w4 hR4 hb4 n4
 replace n4 := Hd (n3.out.trans n4)
 have hb14 := hb13.out.trans hb4
 clear hR3 hb13 hb4
 go_wp2_with fail
 go_ret
 refine ⟨_, rfl, ?_, hb14, n4.out⟩
 rw [hline.out, <- ByteArray.append_assoc, <- ByteArray.append_assoc]
 exact hR4
def marksV : Value := .agg #[.int .u8 0, .int .u8 43, .int .u8 45, .int .u8 58, .int .u8 36, .int .u8 42, .int .u8 95, .int .u8 44, .int .u8 35, .int .u8 40, .int .u8 33, .int .u8 61, .int .u8 37, .int .u8 126, .int .u8 62]
theorem Ax (w : World) : Calls Tryz.prog 51 #[] w fun e w' => e = .returned marksV /\ Below w.heap.size w w' := by
 have hal := fun (o : Obj) => (Below.refl w.heap.size w).alloc (Nat.le_refl _) o
 replace hal := Hd hal
 go_enter Tryz.func51, Tryz.ntmps51
 go_wp2
 exact bodyPost_ret (v := marksV) (by simp [results, Tryz.results51, go_sem, marksV]) rfl ⟨rfl, hal.out _⟩
theorem Bd (k : Int) (h : 1 <= k /\ k <= 14) (w : World) : (Instr.index 80 marksV (.int .i64 k)).run Tryz.prog w = .ok (.int .u8 ((Dq k).toNat : Int)) w := by
 rcases (by omega : k = 1 \/ k = 2 \/ k = 3 \/ k = 4 \/ k = 5 \/ k = 6 \/ k = 7 \/ k = 8 \/ k = 9 \/ k = 10 \/ k = 11 \/ k = 12 \/ k = 13 \/ k = 14) with rfl | rfl | rfl | rfl | rfl | rfl | rfl | rfl | rfl | rfl | rfl | rfl | rfl | rfl <;> kernel_rfl
end Go.Proofs.YtagkgfniihiinaaGreatDoor
