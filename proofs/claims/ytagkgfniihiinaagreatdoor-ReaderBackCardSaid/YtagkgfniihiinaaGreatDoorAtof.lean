/- internal/strconv.special; atof64 where a quotient of whole numbers is asked. -/
import Derived.Test.YtagkgfniihiinaaGreatDoorReadF
import Derived.Test.YtagkgfniihiinaaGreatDoorJ13
namespace Go.Proofs.YtagkgfniihiinaaGreatDoor
open Go.RowKit
theorem Eo (r : Nat) (w : World) : (callFunc 211 #[.int .u64 (r : Int)]).run Tryz.prog w = .ok (.value (.float .f64 r)) w := by kernel_rfl
theorem common_digit {s : ByteArray} {c : UInt8} {l : List UInt8} (h : s.data.toList = c :: l) (hc : isD c = true) (hs : s.size <= 1000) (w : World) :
   Calls Tryz.prog 236 #[.string s, .string ⟨#[105, 110, 102, 105, 110, 105, 116, 121]⟩] w fun e w' => e = .returned (.int .i64 0) /\ w' = w := by
 obtain ⟨hlt, hc0, _⟩ := Ao (s := s) (k := 0) (c := c) (l := l) h
 have hd : 48 <= c.toNat /\ c.toNat <= 57 := by simp [isD] at hc; exact hc
 have h0 : (0 : Int) < (s.size : Int) := by omega
 have hsz : (s.size : Int) <= 1000 := by omega
 have k1 : ¬ (65 : Int) <= (c.toNat : Int) := by omega
 have k2 : ((c.toNat : Int) != 105) = true := by simp; omega
 have k3 : ¬ (c.toNat : Int) = 105 := by omega
 have k4 : ((⟨#[105, 110, 102, 105, 110, 105, 116, 121]⟩ : ByteArray)[0]'(by decide)).toNat = 105 := rfl
 obtain ⟨n, hn⟩ : ∃ n : Int, min (8 : Int) (s.size : Int) = n := ⟨_, rfl⟩
 have hn0 : 0 < n := by omega
 have hn1 : n <= 8 := by omega
 clear h hd hc
 go_enter Tryz.func236, Tryz.ntmps236
 go_wp2_with fail
 go_loop [6, 7] (fun i b => i = .int .i64 0) (fun _ _ => 0)
 case atStart => rfl
 case round =>
   obtain rfl := hrel
   go_wp2
   go_ret
   exact ⟨rfl, rfl⟩
set_option maxRecDepth 100000 in
set_option maxHeartbeats 1600000 in
theorem special_num {s : ByteArray} {neg : Bool} {c : UInt8} {l : List UInt8} (h : s.data.toList = (if neg then [45] else []) ++ c :: l) (hc : isD c = true) (hs : s.size <= 1000) (w : World) :
   Calls Tryz.prog 201 #[.string s] w fun e w' => e = .returned (.tuple #[.float .f64 0, .int .i64 0, .bool false]) /\ w' = w := by
 have hd : 48 <= c.toNat /\ c.toNat <= 57 := by simp [isD] at hc; exact hc
 have hsz : (s.size : Int) <= 1000 := by omega
 cases neg with
 | false =>
   have h' : s.data.toList.drop 0 = c :: l := h
   obtain ⟨hlt, hc0, _⟩ := Ao h'
   have h0 : (0 : Int) < (s.size : Int) := by omega
   have h00 : ((s.size : Int) == 0) = false := beq_eq_false_iff_ne.2 (by omega)
   have hse : ¬ s = ByteArray.empty := fun e => by rw [Ai, e] at hlt; exact absurd hlt (by decide)
   have k1 : ((c.toNat : Int) == 43) = false := by simp; omega
   have k2 : ((c.toNat : Int) == 45) = false := by simp; omega
   have k3 : ((c.toNat : Int) == 105) = false := by simp; omega
   have k4 : ((c.toNat : Int) == 73) = false := by simp; omega
   have k5 : ((c.toNat : Int) == 110) = false := by simp; omega
   have k6 : ((c.toNat : Int) == 78) = false := by simp; omega
   clear h h' hd hc
   go_enter Tryz.func201, Tryz.ntmps201
   go_wp2
   exact bodyPost_ret (v := .tuple #[.float .f64 0, .int .i64 0, .bool false]) (by simp [results, Tryz.results201, go_sem]) rfl ⟨rfl, rfl⟩
 | true =>
   have h' : s.data.toList.drop 0 = 45 :: c :: l := h
   obtain ⟨hlt, hc0, hd1⟩ := Ao h'
   have h0 : (0 : Int) < (s.size : Int) := by omega
   have h00 : ((s.size : Int) == 0) = false := beq_eq_false_iff_ne.2 (by omega)
   have hse : ¬ s = ByteArray.empty := fun e => by rw [Ai, e] at hlt; exact absurd hlt (by decide)
   obtain ⟨s1, hs1⟩ : ∃ s1, s.extract 1 s.size = s1 := ⟨_, rfl⟩
   have hs1l : s1.data.toList = c :: l := by
     rw [<- hs1, ByteArray.data_extract, Array.toList_extract, List.extract_eq_take_drop]
     rw [Nat.zero_add] at hd1
     rw [hd1]
     refine List.take_of_length_le ?_
     have := congrArg List.length hd1
     rw [List.length_drop, <- Ai] at this
     omega
   have hs1n : s1.size <= 1000 := by
     rw [Ai, hs1l]
     have := congrArg List.length h
     rw [<- Ai] at this
     simp at this ⊢; omega
   have hcm := common_digit hs1l hc hs1n w
   have h1i : (1 : Int) <= (s.size : Int) := by omega
   have e45 : ((45 : UInt8).toNat : Int) = 45 := rfl
   replace hcm := Hd hcm
   clear h h' hd hc hs1l hs1n hd1
   go_enter Tryz.func201, Tryz.ntmps201
   go_wp2_with fail
   refine hcm.out.mono ?_
   rintro e w' ⟨rfl, hww⟩
   obtain rfl := hww.symm
   clear hww
   go_wp2
   exact bodyPost_ret (v := .tuple #[.float .f64 0, .int .i64 0, .bool false]) (by simp [results, Tryz.results201, go_sem]) rfl ⟨rfl, rfl⟩
theorem sparse_ok {s : ByteArray} {r : Nat} {w : World} (h : Calls Tryz.prog 164 #[.string s] w fun e w' => e = .returned (.tuple #[.float .f64 r, .int .i64 (s.size : Int), .nilIface]) /\ w' = w) :
   Calls Tryz.prog 85 #[.string s, .int .i64 64] w fun e w' => e = .returned (.tuple #[.float .f64 r, .nilIface]) /\ w' = w := by
 have h2 : Calls Tryz.prog 129 #[.string s, .int .i64 64] w fun e w' => e = .returned (.tuple #[.float .f64 r, .int .i64 (s.size : Int), .nilIface]) /\ w' = w := by
   replace h := Hd h
   go_enter Tryz.func129, Tryz.ntmps129
   go_wp2_with fail
   refine h.out.mono ?_
   rintro e w' ⟨rfl, hww⟩
   obtain rfl := hww.symm
   clear hww
   go_wp2
   exact bodyPost_ret (v := .tuple #[.float .f64 r, .int .i64 (s.size : Int), .nilIface]) (by simp [results, Tryz.results129, go_sem]) rfl ⟨rfl, rfl⟩
 have h3 : Calls Tryz.prog 102 #[.string s, .int .i64 64] w fun e w' => e = .returned (.tuple #[.float .f64 r, .nilIface]) /\ w' = w := by
   replace h2 := Hd h2
   clear h
   have hbs : ((s.size : Int) != (s.size : Int)) = false := by simp
   go_enter Tryz.func102, Tryz.ntmps102
   go_wp2_with fail
   refine h2.out.mono ?_
   rintro e w' ⟨rfl, hww⟩
   obtain rfl := hww.symm
   clear hww
   go_wp2
   go_ret2
   exact ⟨rfl, rfl⟩
 replace h3 := Hd h3
 clear h h2
 go_enter Tryz.func85, Tryz.ntmps85
 go_wp2_with fail
 refine h3.out.mono ?_
 rintro e w' ⟨rfl, hww⟩
 obtain rfl := hww.symm
 clear hww
 go_wp2
 go_ret2
 exact ⟨rfl, rfl⟩
end Go.Proofs.YtagkgfniihiinaaGreatDoor
