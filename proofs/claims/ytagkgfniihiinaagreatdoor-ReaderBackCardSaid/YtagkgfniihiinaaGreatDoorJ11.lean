/- What a kind has; a value's bits; what a value has that its kind has not. -/
import Derived.Test.YtagkgfniihiinaaGreatDoorVal
namespace Go.Proofs.YtagkgfniihiinaaGreatDoor
open Go.RowKit
def Bh (k : Int) : Bool := decide (k = 1 \/ k = 2 \/ k = 4 \/ k = 9 \/ k = 10 \/ k = 11)
def numK (k : Int) : Bool := decide (k = 3)
def Br (k : Int) : Bool := decide (k = 7)
def Bs (k : Int) : Bool := decide (k = 8)
def Aq (k : Int) : Bool := decide (k = 5 \/ k = 12 \/ k = 13 \/ k = 14)
def Cd (k : Int) : Bool := decide (1 <= k /\ k <= 14)
set_option maxHeartbeats 1600000 in
theorem Ey (k : Int) (w : World) : Calls Tryz.prog 105 #[.int .i64 k] w fun e w' =>
   e = .returned (.tuple #[.agg #[.bool (Bh k), .bool (numK k), .bool (Br k), .bool (Bs k), .bool (Aq k)], .bool (Cd k)]) /\ Below w.heap.size w w' := by
 rcases (by omega : k = 1 \/ k = 2 \/ k = 3 \/ k = 4 \/ k = 5 \/ k = 6 \/ k = 7 \/ k = 8 \/ k = 9 \/ k = 10 \/ k = 11 \/ k = 12 \/ k = 13 \/ k = 14 \/ (k < 1 \/ 14 < k)) with rfl | rfl | rfl | rfl | rfl | rfl | rfl | rfl | rfl | rfl | rfl | rfl | rfl | rfl | h
 all_goals
   have e1 := Below.alloc (Below.refl w.heap.size w) (Nat.le_refl _)
   replace e1 := Hd e1
 iterate 14
   · go_enter Tryz.func105, Tryz.ntmps105
     go_wp2
     exact bodyPost_ret (v := .tuple #[.agg #[.bool (Bh _), .bool (numK _), .bool (Br _), .bool (Bs _), .bool (Aq _)], .bool (Cd _)]) (by simp [results, Tryz.results105, go_sem, Bh, numK, Br, Bs, Aq, Cd]) rfl ⟨rfl, e1.out _⟩
 · have h1 : (k == 1) = false := by simp; omega
   have h2 : (k == 2) = false := by simp; omega
   have h3 : (k == 3) = false := by simp; omega
   have h4 : (k == 4) = false := by simp; omega
   have h5 : (k == 5) = false := by simp; omega
   have h6 : (k == 6) = false := by simp; omega
   have h7 : (k == 7) = false := by simp; omega
   have h8 : (k == 8) = false := by simp; omega
   have h9 : (k == 9) = false := by simp; omega
   have h10 : (k == 10) = false := by simp; omega
   have h11 : (k == 11) = false := by simp; omega
   have h12 : (k == 12) = false := by simp; omega
   have h13 : (k == 13) = false := by simp; omega
   have h14 : (k == 14) = false := by simp; omega
   have q1 : Bh k = false := by simp [Bh]; omega
   have q2 : numK k = false := by simp [numK]; omega
   have q3 : Br k = false := by simp [Br]; omega
   have q4 : Bs k = false := by simp [Bs]; omega
   have q5 : Aq k = false := by simp [Aq]; omega
   have q6 : Cd k = false := by simp [Cd]; omega
   rw [q1, q2, q3, q4, q5, q6]
   clear q1 q2 q3 q4 q5 q6 h
   go_enter Tryz.func105, Tryz.ntmps105
   go_wp2
   exact bodyPost_ret (v := .tuple #[.agg #[.bool false, .bool false, .bool false, .bool false, .bool false], .bool false]) (by simp [results, Tryz.results105, go_sem]) rfl ⟨rfl, e1.out _⟩
theorem realBits_any (r : Nat) (w : World) : Calls Tryz.prog 130 #[.float .f64 r] w fun e w' => e = .returned (.int .u64 (A2 r)) /\ w' = w := by
 have hf := f64bits_run r
 have isn : Calls Tryz.prog 76 #[.float .f64 r] w fun e w' => e = .returned (.bool (FloatKind.f64.format.order r r != some .eq)) /\ w' = w := by
   clear hf
   go_enter Tryz.func76, Tryz.ntmps76
   go_wp2
   go_ret
   exact ⟨rfl, rfl⟩
 by_cases hn : nanB r = true
 · have e1 : (FloatKind.f64.format.order r r != some .eq) = true := hn
   have e2 : A2 r = 9221120237041090561 := by simp [A2, hn]
   rw [e2]
   rw [e1] at isn
   clear hn e2 e1
   go_enter Tryz.func130, Tryz.ntmps130
   go_wp2_with fail
   refine isn.mono ?_
   rintro e w' ⟨rfl, rfl⟩
   go_wp2
   go_ret
   exact ⟨rfl, rfl⟩
 · have e1 : (FloatKind.f64.format.order r r != some .eq) = false := by simpa [nanB] using hn
   have e2 : A2 r = r := by simp [A2, hn]
   rw [e2]
   rw [e1] at isn
   clear hn e2 e1
   go_enter Tryz.func130, Tryz.ntmps130
   go_wp2_with fail
   refine isn.mono ?_
   rintro e w' ⟨rfl, rfl⟩
   go_wp2
   go_ret
   exact ⟨rfl, rfl⟩
theorem classK (k : Int) : (Bh k, numK k, Br k, Bs k, Aq k) = (true, false, false, false, false) \/ (Bh k, numK k, Br k, Bs k, Aq k) = (false, true, false, false, false) \/ (Bh k, numK k, Br k, Bs k, Aq k) = (false, false, true, false, false) \/
   (Bh k, numK k, Br k, Bs k, Aq k) = (false, false, false, true, false) \/ (Bh k, numK k, Br k, Bs k, Aq k) = (false, false, false, false, true) \/ (Bh k, numK k, Br k, Bs k, Aq k) = (false, false, false, false, false) := by
 simp only [Prod.mk.injEq, Bh, numK, Br, Bs, Aq, decide_eq_true_eq, decide_eq_false_iff_not]
 omega
def D2 (s : ByteArray) : Bool := s.toList.isEmpty
def Bv (t n r f l : Bool) (v : V) : Bool := (t || D2 v.text) && (n || decide (v.int = 0)) && (r || decide (A2 v.real = 0)) && (f || !v.flag) && (l || decide (v.list.length = 0))
def Bw (v : V) : Bool := Bv (Bh v.kind) (numK v.kind) (Br v.kind) (Bs v.kind) (Aq v.kind) v
set_option maxHeartbeats 3200000 in
theorem Cy (v : V) (a : Option Addr) (cap : Nat) (w : World) :
   Calls Tryz.prog 106 #[.agg #[.int .i64 v.kind, .string v.text, .int .i64 v.int, .float .f64 v.real, .bool v.flag, .slice a v.list.length cap], .agg #[.bool (Bh v.kind), .bool (numK v.kind), .bool (Br v.kind), .bool (Bs v.kind), .bool (Aq v.kind)]] w fun e w' =>
     e = .returned (.bool (Bw v)) /\ Below w.heap.size w w' := by
 have hb := fun (o p : Obj) => ((Below.refl w.heap.size w).alloc (Nat.le_refl _) o).alloc (by simp) p
 have hrb := fun (W : World) => realBits_any v.real W
 replace hb := Hd hb
 unfold Bw
 generalize hn : v.list.length = n
 replace hn := Hd hn
 rcases classK v.kind with h | h | h | h | h | h
 all_goals
   simp only [Prod.mk.injEq] at h
   obtain ⟨h1, h2, h3, h4, h5⟩ := h
   rw [h1, h2, h3, h4, h5]
   clear h1 h2 h3 h4 h5
 all_goals
   go_enter Tryz.func106, Tryz.ntmps106
   go_wp2_with (go_at_call 130; refine (hrb _).mono ?_; rintro e w' ⟨rfl, rfl⟩)
   all_goals
     go_ret
     refine ⟨congrArg (fun b => Ending.returned (.bool b)) ?_, hb.out _ _⟩
     simp [Bv, D2, hn.out, *]
     try (by_cases hz : n = 0 <;> simp [hz])
end Go.Proofs.YtagkgfniihiinaaGreatDoor
