/- wire.line, wire.put: a value's bytes behind other bytes. -/
import Derived.Test.YtagkgfniihiinaaGreatDoorWireP
import Derived.Test.YtagkgfniihiinaaGreatDoorRowN
import Derived.Test.YtagkgfniihiinaaGreatDoorJ2
import Derived.Test.YtagkgfniihiinaaGreatDoorRTxt
namespace Go.Proofs.YtagkgfniihiinaaGreatDoor
open Go.RowKit Go.Joins
def Dw (B : Nat) (w : World) : Addr -> Option Value := fun a => if a.block < B then w.cell? a else none
theorem Fe {B : Nat} {w : World} {a : Addr} {u : Value} (h : Dw B w a = some u) : w.cell? a = some u /\ a.block < B := by
 unfold Dw at h
 split at h
 · exact ⟨h, ‹_›⟩
 · cases h
theorem Aj {B : Nat} {w w' : World} (hb : Below B w w') : ∀ a u, Dw B w a = some u -> Dw B w' a = some u := fun a u h => by
 obtain ⟨h1, h2⟩ := Fe h
 unfold Dw
 rw [if_pos h2, hb.cell h2]; exact h1
theorem Ah {B : Nat} {w : World} : ∀ a u, Dw B w a = some u -> w.cell? a = some u := fun _ _ h => (Fe h).1
theorem older_of {B : Nat} {w : World} (hB : w.heap.size <= B) : ∀ a u, w.cell? a = some u -> Dw B w a = some u := fun a u h => by
 unfold Dw
 rw [if_pos (Nat.lt_of_lt_of_le (World.block_lt_of_cell? _ _ h) hB)]; exact h
structure LaidV (B : Nat) (w : World) : Prop where
 nums : Laid B w
 flo : ∃ W0 : World, W0.heap.size <= B /\ Flo W0 /\ Below W0.heap.size W0 w
theorem LaidV.below {B B' : Nat} {w w' : World} (h : LaidV B w) (hb : Below B' w w') (hB : B <= B') : LaidV B w' :=
 ⟨h.nums.below hb hB, let ⟨W0, h1, h2, h3⟩ := h.flo; ⟨W0, h1, h2, h3.trans (hb.mono (Nat.le_trans h1 hB))⟩⟩
theorem LaidV.of {w : World} (h : Nums w) (hf : Flo w) : LaidV w.heap.size w := ⟨Laid.of h, w, Nat.le_refl _, hf, Below.refl _ _⟩
theorem LaidV.mono {B B' : Nat} {w : World} (h : LaidV B w) (hB : B <= B') : LaidV B' w := ⟨h.nums.mono hB, let ⟨W0, h1, h2, h3⟩ := h.flo; ⟨W0, Nat.le_trans h1 hB, h2, h3⟩⟩
theorem flo_below {w w' : World} (h : Flo w) (hb : Below w.heap.size w w') : Flo w' := ⟨h.pows.below hb h.pows.lt, Go.Joins.tab_stays Bn h.tens hb (Nat.le_refl _)⟩
theorem LaidV.isFlo {B : Nat} {w : World} (h : LaidV B w) : Flo w := by
 obtain ⟨W0, h1, h2, h3⟩ := h.flo
 exact flo_below h2 h3
def Dp (m : UInt8) (t : ByteArray) : ByteArray := ⟨#[m]⟩ ++ t ++ ⟨#[13, 10]⟩
theorem Cb (a b : List UInt8) : (⟨(a ++ b).toArray⟩ : ByteArray) = ⟨a.toArray⟩ ++ ⟨b.toArray⟩ := by
 apply ByteArray.ext
 simp [ByteArray.data_append]
theorem Cs (m : UInt8) (t : ByteArray) : (⟨(Ci m t.data.toList).toArray⟩ : ByteArray) = Dp m t := by
 apply ByteArray.ext
 apply Array.toList_inj.1
 simp [Dp, Ci, ByteArray.data_append]
theorem Cl (m : UInt8) (n : Int) : (⟨(numL m n).toArray⟩ : ByteArray) = numB m n := by
 apply ByteArray.ext
 apply Array.toList_inj.1
 simp [numB, numL, Ci, ByteArray.data_append]
theorem Ej (m : UInt8) (t : ByteArray) : (⟨(longL m t.data.toList).toArray⟩ : ByteArray) = Ch m t := by
 unfold longL Ch
 rw [Cb, Cl, Cb]
 have e : ((t.data.toList.length : Nat) : Int) = (t.size : Int) := by rw [size_l']
 rw [e, ByteArray.append_assoc]
set_option maxRecDepth 100000 in
set_option maxHeartbeats 1600000 in
theorem Ck {B : Nat} {w : World} {v : Value} {s : ByteArray} (m : UInt8) (t : ByteArray) (hR : Row B w v s) (hB : B <= w.heap.size) (hn : s.size <= 1000000000000) (ht : t.size <= 1000000000000) :
   Calls Tryz.prog 52 #[v, .int .u8 (m.toNat : Int), .string t] w fun e w' => ∃ v', e = .returned v' /\ Row B w' v' (s ++ Dp m t) /\ Below B w w' /\ NB w w' := by
 have hn1 : s.size + 1 <= 140737488355328 := by omega
 have hline : Dp m t = ⟨#[m]⟩ ++ t ++ ⟨#[13, 10]⟩ := rfl
 have e1 : (⟨#[m]⟩ : ByteArray).size = 1 := rfl
 have e2 : (⟨#[13, 10]⟩ : ByteArray).size = 2 := rfl
 have hn2 : (s ++ ⟨#[m]⟩).size + t.size <= 140737488355328 := by rw [ByteArray.size_append, e1]; omega
 have hn3 : (s ++ ⟨#[m]⟩ ++ t).size + (⟨#[13, 10]⟩ : ByteArray).size <= 140737488355328 := by rw [ByteArray.size_append, ByteArray.size_append, e1, e2]; omega
 clear e1 e2
 replace hR := Hd hR
 replace hline := Hd hline
 go_enter Tryz.func52, Tryz.ntmps52
 go_wp2_with (at_builtin; refine F9 rfl rfl rfl hR.out rfl hn1 hB ?_)
 intro v1 w1 hR1 hb1 n1
 replace n1 := Hd n1
 have hB1 : B <= w1.heap.size := Nat.le_trans hB hb1.size
 replace hR1 := Hd hR1
 replace hb1 := Hd hb1
 go_wp2_with (at_builtin; refine Bw rfl rfl rfl hR1.out rfl hn2 hB1 ?_)
 intro v3 w3 hR3 hb3 n3
 replace n3 := Hd (n1.out.trans n3)
 have hb13 := hb1.out.trans hb3
 have hB3 : B <= w3.heap.size := Nat.le_trans hB1 hb3.size
 clear hR1 hb1 hb3
 replace hR3 := Hd hR3
 replace hb13 := Hd hb13
 go_wp2_with (at_builtin; refine Bw rfl rfl rfl hR3.out rfl hn3 hB3 ?_)
 intro v4 w4 hR4 hb4 n4
 replace n4 := Hd (n3.out.trans n4)
 have hb14 := hb13.out.trans hb4
 clear hR3 hb13 hb4
 go_wp2_with fail
 go_ret
 refine ⟨_, rfl, ?_, hb14, n4.out⟩
 rw [hline.out, <- ByteArray.append_assoc, <- ByteArray.append_assoc]
 exact hR4
def marksV : Value := .agg #[.int .u8 0, .int .u8 43, .int .u8 45, .int .u8 58, .int .u8 36, .int .u8 42, .int .u8 95, .int .u8 44, .int .u8 35, .int .u8 40, .int .u8 33, .int .u8 61, .int .u8 37, .int .u8 126, .int .u8 62]
theorem Ax (w : World) : Calls Tryz.prog 51 #[] w fun e w' => e = .returned marksV /\ Below w.heap.size w w' := by
 have hal := fun (o : Obj) => (Below.refl w.heap.size w).alloc (Nat.le_refl _) o
 replace hal := Hd hal
 go_enter Tryz.func51, Tryz.ntmps51
 go_wp2
 exact bodyPost_ret (v := marksV) (by simp [results, Tryz.results51, go_sem, marksV]) rfl ⟨rfl, hal.out _⟩
theorem A9 (k : Int) (h : 1 <= k /\ k <= 14) (w : World) : (Instr.index 80 marksV (.int .i64 k)).run Tryz.prog w = .ok (.int .u8 ((C4 k).toNat : Int)) w := by
 rcases (by omega : k = 1 \/ k = 2 \/ k = 3 \/ k = 4 \/ k = 5 \/ k = 6 \/ k = 7 \/ k = 8 \/ k = 9 \/ k = 10 \/ k = 11 \/ k = 12 \/ k = 13 \/ k = 14) with rfl | rfl | rfl | rfl | rfl | rfl | rfl | rfl | rfl | rfl | rfl | rfl | rfl | rfl <;> kernel_rfl
end Go.Proofs.YtagkgfniihiinaaGreatDoor
