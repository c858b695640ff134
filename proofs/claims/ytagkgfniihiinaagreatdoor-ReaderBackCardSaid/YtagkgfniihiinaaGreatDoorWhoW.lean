/- real.Parse at the digits of a whole number. -/
import Derived.Test.YtagkgfniihiinaaGreatDoorJ53
import Derived.Test.YtagkgfniihiinaaGreatDoorJ50
import Derived.Test.YtagkgfniihiinaaGreatDoorAtofM
import Derived.Test.YtagkgfniihiinaaGreatDoorJ18
namespace Go.Proofs.YtagkgfniihiinaaGreatDoor
open Go.RowKit
theorem sparse_okB {s : ByteArray} {r : Nat} {w : World} (h : Calls Tryz.prog 164 #[.string s] w fun e w' => e = .returned (.tuple #[.float .f64 r, .int .i64 (s.size : Int), .nilIface]) /\ Below w.heap.size w w') :
   Calls Tryz.prog 85 #[.string s, .int .i64 64] w fun e w' => e = .returned (.tuple #[.float .f64 r, .nilIface]) /\ Below w.heap.size w w' := by
 have h2 : Calls Tryz.prog 129 #[.string s, .int .i64 64] w fun e w' => e = .returned (.tuple #[.float .f64 r, .int .i64 (s.size : Int), .nilIface]) /\ Below w.heap.size w w' := by
   replace h := Hd h
   go_enter Tryz.func129, Tryz.ntmps129
   go_wp2_with fail
   refine h.out.mono ?_
   rintro e w' ⟨rfl, hww⟩
   go_wp2
   exact bodyPost_ret (v := .tuple #[.float .f64 r, .int .i64 (s.size : Int), .nilIface]) (by simp [results, Tryz.results129, go_sem]) rfl ⟨rfl, hww⟩
 have h3 : Calls Tryz.prog 102 #[.string s, .int .i64 64] w fun e w' => e = .returned (.tuple #[.float .f64 r, .nilIface]) /\ Below w.heap.size w w' := by
   replace h2 := Hd h2
   clear h
   have hbs : ((s.size : Int) != (s.size : Int)) = false := by simp
   go_enter Tryz.func102, Tryz.ntmps102
   go_wp2_with fail
   refine h2.out.mono ?_
   rintro e w' ⟨rfl, hww⟩
   go_wp2
   go_ret2
   exact ⟨rfl, hww⟩
 replace h3 := Hd h3
 clear h h2
 go_enter Tryz.func85, Tryz.ntmps85
 go_wp2_with fail
 refine h3.out.mono ?_
 rintro e w' ⟨rfl, hww⟩
 go_wp2
 go_ret2
 exact ⟨rfl, hww⟩
set_option maxRecDepth 100000 in
set_option maxHeartbeats 1600000 in
theorem parse_numB {s : ByteArray} {neg : Bool} {c : UInt8} {l : List UInt8} {r : Nat} {w : World} (h : s.data.toList = (if neg then [45] else []) ++ c :: l) (hc : isD c = true) (hs : s.size <= 64) (hr : Dc s.data.toList = true)
   (hp : ∀ w', Below w.heap.size w w' -> Calls Tryz.prog 85 #[.string s, .int .i64 64] w' fun e w'' => e = .returned (.tuple #[.float .f64 r, .nilIface]) /\ Below w'.heap.size w' w'') :
   Calls Tryz.prog 90 #[.string s] w fun e w' => e = .returned (.tuple #[.float .f64 r, .int .i64 0]) /\ Below w.heap.size w w' := by
 obtain ⟨k1, k2, k3⟩ := num_head h hc
 have hra := numright_any (s := s) (by omega) w
 rw [hr] at hra
 have hsz : ¬ (64 : Int) < (s.size : Int) := by omega
 replace hra := Hd hra
 replace hp := Hd hp
 clear h hc hr
 go_enter Tryz.func90, Tryz.ntmps90
 go_wp2_with fail
 refine hra.out.mono ?_
 rintro e w1 ⟨rfl, hb⟩
 have hp1 := hp.out w1 hb
 replace hp1 := Hd hp1
 go_wp2_with fail
 refine hp1.out.mono ?_
 rintro e w2 ⟨rfl, hww⟩
 go_wp2
 go_ret2
 exact ⟨rfl, hb.trans (hww.mono hb.size)⟩
theorem dec_cons (n : Nat) : ∃ c l, Lib.decDigits n = c :: l /\ isD c = true := by
 cases h : Lib.decDigits n with
 | nil => exact absurd h (dec_nil n)
 | cons c l => exact ⟨c, l, rfl, E7 n c (by rw [h]; exact List.mem_cons_self ..)⟩
theorem whole_form {s : ByteArray} {neg : Bool} {n : Nat} (hs : s.data.toList = A1 neg ++ Lib.decDigits n) (h : Lib.nDigits n <= 19) : FTxt s neg false (Lib.decDigits n) (Lib.nDigits n) 0 := by
 obtain ⟨c, l, hcl, hc⟩ := dec_cons n
 refine ⟨⟨c, l, [], ?_, hc, ?_, .none, ?_⟩, ?_, dec_nil n⟩
 · rw [hs, hcl]; rfl
 · rw [<- hcl]
   have := Do (D := Lib.decDigits n) (l := []) (d := false) (L := []) (m := 0) (E7 n)
   rw [List.append_nil] at this
   rw [this, Cj, List.nil_append, Nat.zero_add, Lib.decDigits_length]
 · intro b hb
   rw [<- hcl] at hb
   exact .inl (E7 n b hb)
 · rw [Ai, hs, List.length_append, Lib.decDigits_length]
   cases neg <;> simp [A1] <;> omega
theorem nD_all : ∀ {l : List UInt8}, (∀ c ∈ l, isD c = true) -> nD l = l.length
 | [], _ => rfl
 | c :: l, h => by
   unfold nD
   rw [List.takeWhile_cons_of_pos (h c (List.mem_cons_self ..)), List.length_cons, List.length_cons]
   congr 1
   exact nD_all (fun x hx => h x (List.mem_cons_of_mem _ hx))
end Go.Proofs.YtagkgfniihiinaaGreatDoor
