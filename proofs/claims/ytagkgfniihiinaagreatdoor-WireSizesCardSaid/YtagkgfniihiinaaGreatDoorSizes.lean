/- WireSizes: its walk. -/
import Derived.Test.YtagkgfniihiinaaGreatDoorBytes2
import Derived.Test.YtagkgfniihiinaaGreatDoorRely2
import Derived.Test.YtagkgfniihiinaaGreatDoorGives
namespace Go.Proofs.YtagkgfniihiinaaGreatDoor
open Go.RowKit Go.Joins
def C6 (p : Int) (l : List V) : ByteArray := ⟨((l.map fun x => A8 x p).flatten).toArray⟩
theorem E8 (p : Int) (l : List V) (x : V) : C6 p (l ++ [x]) = C6 p l ++ ⟨(A8 x p).toArray⟩ := by
 unfold C6
 rw [<- B3, List.map_append, List.flatten_append]; simp
theorem wireL_flat (l : List V) : V.wireL l = (l.map V.wire).flatten := by
 induction l with
 | nil => rfl
 | cons x l ih => rw [V.wireL, ih]; simp
theorem oldL_flat (l : List V) : V.oldL l = (l.map V.old).flatten := by
 induction l with
 | nil => rfl
 | cons x l ih => rw [V.oldL, ih]; simp
theorem bytesP_arr (p : Int) (l : List V) : (⟨(A8 (.mk 5 ⟨#[]⟩ 0 0 false l) p).toArray⟩ : ByteArray) = numB 42 l.length ++ C6 p l := by
 rw [<- Cq, C6, <- B3]
 congr 2
 unfold A8
 by_cases h3 : p = 3
 · rw [if_pos h3, V.wire_eq]
   show numL 42 l.length ++ V.wireL l = _
   rw [wireL_flat]
   simp only [if_pos h3]
 · rw [if_neg h3, V.down_eq]
   show (V.mk 5 ⟨#[]⟩ 0 0 false (l.map V.down)).old = _
   rw [V.old_eq]
   show numL 42 (l.map V.down).length ++ V.oldL (l.map V.down) = _
   rw [oldL_flat, List.length_map, List.map_map]
   simp only [if_neg h3]
   rfl
theorem head_nine : ∀ n : Nat, n <= 9 -> numB 42 n = ⟨#[42]⟩ ++ ByteArray.extract ⟨#[48, 49, 50, 51, 52, 53, 54, 55, 56, 57]⟩ n (n + 1) ++ ⟨#[13, 10]⟩ := by
 intro n hn
 have : ∀ m : Fin 10, (numB 42 (m.val : Int)).data.toList = (⟨#[42]⟩ ++ ByteArray.extract ⟨#[48, 49, 50, 51, 52, 53, 54, 55, 56, 57]⟩ m.val (m.val + 1) ++ ⟨#[13, 10]⟩ : ByteArray).data.toList := by decide +kernel
 exact ByteArray.ext (Array.toList_inj.1 (this ⟨n, by omega⟩))
def szR (i : Nat) (w w' : World) : Prop := match i with | 2 => Below w.heap.size w w' | _ => w' = w
namespace R2
set_option maxRecDepth 100000 in
set_option maxHeartbeats 6400000 in
theorem sizesL_any {l : List V} {ad : Option Addr} {n cap : Nat} {p : Int} {w : World} (hv : RV w.cell? (Ad 5 ⟨#[]⟩ 0 0 false ad n cap) (.mk 5 ⟨#[]⟩ 0 0 false l)) (hs : V.sizedL l) (hr : V.rangedL l) (hN : Nums w) (hF : Flo w) :
   Calls Tryz.prog 5 #[.slice ad n cap, .int .i64 p] w fun e w' => e = .returned (.bool true) /\ Below w.heap.size w w' := by
 have hn : n = l.length := hv.len.2.2.2.2.2
 have hL := LaidV.of hN hF
 have hal := alive04_any w hL.nums
 replace hn := Hd hn
 replace hv := Hd hv
 replace hs := Hd hs
 replace hr := Hd hr
 replace hL := Hd hL
 replace hal := Hd hal
 clear hN hF
 by_cases hbig : 9 < n
 · have hbz : (9 : Int) < n := by omega
   go_enter Tryz.func5, Tryz.ntmps5
   go_wp2_with fail
   refine hal.out.mono ?_
   rintro e w1 ⟨rfl, hb1⟩
   replace hb1 := Hd hb1
   go_wp2_with fail
   go_ret
   exact ⟨rfl, hb1.out⟩
 · have hbz : ¬ (9 : Int) < n := by omega
   go_enter Tryz.func5, Tryz.ntmps5
   go_wp2_with fail
   refine hal.out.mono ?_
   rintro e w1 ⟨rfl, hb1⟩
   replace hb1 := Hd hb1
   go_wp2_with fail
   go_loopw [5, 17] (fun s q wr => ∃ j : Nat, j <= n /\ q = .int .i64 j /\ s = .string (C6 p (l.take j)) /\ (C6 p (l.take j)).size <= j * 5000000 /\ V.countL (l.take j) <= j * 1000 /\ Below w.heap.size w wr) (fun _ q _ => n - (intOf q).toNat)
   case atStart => exact ⟨0, Nat.zero_le _, rfl, rfl, Nat.le_refl _, Nat.le_refl _, hb1.out⟩
   case round =>
     obtain ⟨j, hj, rfl, rfl, hpz, hcz, hbw⟩ := hrel
     clear hb1
     have hs1 := hbw.size
     by_cases hlt : j < n
     · have hlti : (j : Int) < (n : Int) := by omega
       have hvw := hv.out.mono (Aa hbw)
       obtain ⟨x, bb, o, ax, cx, hxj, hmem, rfl, hx, d0, d1, d2, d3, d4, d5⟩ := RV.elem' (v := .mk 5 ⟨#[]⟩ 0 0 false l) hvw hlt
       have hts : l.take (j + 1) = l.take j ++ [x] := by
         obtain ⟨h1, h2⟩ := List.getElem?_eq_some_iff.1 hxj
         have h3 : l[j]'h1 = x := h2
         rw [<- h3]; exact List.take_succ_eq_append_getElem (l := l) h1
       have hxs := V.sizedL_mem hs.out x hmem
       have hxr := V.rangedL_mem hr.out x hmem
       obtain ⟨W4, hW4⟩ : ∃ W4, W4 = wr.alloc (.cells #[.int .i64 x.kind, .string x.text, .int .i64 x.int, .float .f64 x.real, .bool x.flag, .slice ax x.list.length cx] 26) := ⟨_, rfl⟩
       have hb4 : Below wr.heap.size wr W4 := by rw [hW4]; exact (Below.refl _ _).alloc (Nat.le_refl _) _
       have hr6 : W4.rangeAt wr.heap.size 0 [.int .i64 x.kind, .string x.text, .int .i64 x.int, .float .f64 x.real, .bool x.flag, .slice ax x.list.length cx] := by
         rw [hW4]; intro q u hq; rw [Nat.zero_add, World.cell?_alloc_new]; simpa using hq
       have hbw4 : Below w.heap.size w W4 := hbw.trans (hb4.mono hs1)
       have hx4 := hx.mono (Aa hb4)
       replace hx4 := Hd hx4
       replace hxs := Hd hxs
       replace hxr := Hd hxr
       replace hts := Hd hts
       replace hW4 := Hd hW4
       replace hr6 := Hd hr6
       replace hbw4 := Hd hbw4
       clear hb4 hbw hx hvw hxj hmem
       go_upto_region 9 with fail
       rw [<- hW4.out]
       have hre := Below.refl W4.heap.size W4
       have p00 : _ := Ab hre hr6.out 0 (.int .i64 x.kind) rfl
       have p10 : _ := Ab hre hr6.out 1 (.string x.text) rfl
       have p20 : _ := Ab hre hr6.out 2 (.int .i64 x.int) rfl
       have p30 : _ := Ab hre hr6.out 3 (.float .f64 x.real) rfl
       have p40 : _ := Ab hre hr6.out 4 (.bool x.flag) rfl
       have p50 : _ := Ab hre hr6.out 5 (.slice ax x.list.length cx) rfl
       rw [Nat.zero_add] at p00 p10 p20 p30 p40 p50
       clear d0 d1 d2 d3 d4 d5 hre
       go_wp2_with fail
       refine (small_any hx4.out).mono ?_
       rintro e w5 ⟨b1, rfl, k1, hb5⟩
       clear p00 p10 p20 p30 p40 p50
       cases b1 with
       | false =>
         have hbz := hbw4.out.trans (hb5.mono hbw4.out.size)
         replace hbz := Hd hbz
         go_wp2_with fail
         go_ret
         exact ⟨rfl, hbz.out⟩
       | true =>
       have cu := (k1 rfl).1
       clear k1
       have p05 : _ := Ab hb5 hr6.out 0 (.int .i64 x.kind) rfl
       have p15 : _ := Ab hb5 hr6.out 1 (.string x.text) rfl
       have p25 : _ := Ab hb5 hr6.out 2 (.int .i64 x.int) rfl
       have p35 : _ := Ab hb5 hr6.out 3 (.float .f64 x.real) rfl
       have p45 : _ := Ab hb5 hr6.out 4 (.bool x.flag) rfl
       have p55 : _ := Ab hb5 hr6.out 5 (.slice ax x.list.length cx) rfl
       rw [Nat.zero_add] at p05 p15 p25 p35 p45 p55
       have hx5 := hx4.out.mono (Aa hb5)
       replace hx5 := Hd hx5
       replace hb5 := Hd hb5
       go_wp2_with fail
       refine (Fv x ax cx w5 hx5.out hxs.out (by omega)).mono ?_
       rintro e w6 ⟨rfl, hb6⟩
       replace hb6 := hb5.out.trans (hb6.mono hb5.out.size)
       obtain ⟨r1, hr1⟩ : ∃ r1, r1 = B5 x := ⟨_, rfl⟩
       rw [<- hr1]
       clear p05 p15 p25 p35 p45 p55
       clear hx5 hb5
       cases r1 with
       | false =>
         have hbz := hbw4.out.trans (hb6.mono hbw4.out.size)
         replace hbz := Hd hbz
         go_wp2_with fail
         go_ret
         exact ⟨rfl, hbz.out⟩
       | true =>
       have fu := E7 hr1.symm
       clear hr1
       replace fu := Hd fu
       have p06 : _ := Ab hb6 hr6.out 0 (.int .i64 x.kind) rfl
       have p16 : _ := Ab hb6 hr6.out 1 (.string x.text) rfl
       have p26 : _ := Ab hb6 hr6.out 2 (.int .i64 x.int) rfl
       have p36 : _ := Ab hb6 hr6.out 3 (.float .f64 x.real) rfl
       have p46 : _ := Ab hb6 hr6.out 4 (.bool x.flag) rfl
       have p56 : _ := Ab hb6 hr6.out 5 (.slice ax x.list.length cx) rfl
       rw [Nat.zero_add] at p06 p16 p26 p36 p46 p56
       by_cases hk14 : x.kind = 14
       · have hkz : (x.kind == 14) = true := by simp [hk14]
         have hbz := hbw4.out.trans (hb6.mono hbw4.out.size)
         replace hbz := Hd hbz
         go_wp2_with fail
         go_ret
         exact ⟨rfl, hbz.out⟩
       · have hkz : (x.kind == 14) = false := by simp [hk14]
         have hx6 := hx4.out.mono (Aa hb6)
         have hL6 : ∀ wx, Below W4.heap.size W4 wx -> LaidV wx.heap.size wx := fun wx h => ((hL.out.below (hbw4.out.trans (h.mono hbw4.out.size)) (Nat.le_refl _)).mono (Nat.le_trans hbw4.out.size h.size))
         have hby := Eb x ax cx 8 p w6 hx6 fu.out.1 hxr.out (by omega) (hL6 w6 hb6)
         have hln := (Dd (p := p) fu.out.1 hxr.out (by omega)).1
         have hsz : (⟨(A8 x p).toArray⟩ : ByteArray).size = (A8 x p).length := Cy _
         replace hby := Hd hby
         replace hb6 := Hd hb6
         replace hL6 := Hd hL6
         replace hsz := Hd hsz
         clear hx6
         go_wp2_with fail
         refine hby.out.mono ?_
         rintro e w7 ⟨b7, rfl, hR7, hb7⟩
         replace hb7 := hb6.out.trans (hb7.mono hb6.out.size)
         obtain ⟨g7, c7, rfl⟩ := hR7.len (by rw [hsz.out]; omega)
         have hcv := hR7.back (by rw [hsz.out]; omega)
         rw [hsz.out] at hcv ⊢
         have hll : ¬ (((A8 x p).length : Int) < 3) := by omega
         have hx7 := hx4.out.mono (Aa hb7)
         have hsi := size_any x ax cx 8 p w7 hx7 fu.out.1 hxr.out (by omega) (hL6.out w7 hb7)
         clear p06 p16 p26 p36 p46 p56
         have p07 : _ := Ab hb7 hr6.out 0 (.int .i64 x.kind) rfl
         have p17 : _ := Ab hb7 hr6.out 1 (.string x.text) rfl
         have p27 : _ := Ab hb7 hr6.out 2 (.int .i64 x.int) rfl
         have p37 : _ := Ab hb7 hr6.out 3 (.float .f64 x.real) rfl
         have p47 : _ := Ab hb7 hr6.out 4 (.bool x.flag) rfl
         have p57 : _ := Ab hb7 hr6.out 5 (.slice ax x.list.length cx) rfl
         rw [Nat.zero_add] at p07 p17 p27 p37 p47 p57
         replace hsi := Hd hsi
         replace hR7 := Hd hR7
         replace hcv := Hd hcv
         have hb7' := hb7
         replace hb7 := Hd hb7
         clear hx7 hb7' hb6
         go_wp2_with fail
         refine hsi.out.mono ?_
         rintro e w8 ⟨rfl, hb8⟩
         have hcv8 : (convert 27 9 (.slice (some ⟨g7, 0, none⟩) (A8 x p).length c7)).run Tryz.prog w8 = .ok (.string ⟨(A8 x p).toArray⟩) w8 := by
           have := (hR7.out.below hb8 (Nat.le_refl _)).back (by rw [hsz.out]; omega)
           rw [hsz.out] at this
           exact this
         have hb9 := hbw4.out.trans ((hb7.out.trans (hb8.mono hb7.out.size)).mono hbw4.out.size)
         have hlx := (Dd (p := p) fu.out.1 hxr.out (by omega)).2
         have hcat : ¬ 9223372036854775807 < (C6 p (l.take j)).size + (A8 x p).length := by have := fu.out.2; omega
         have hnx : (C6 p (l.take (j + 1))).size <= (j + 1) * 5000000 := by rw [hts.out, E8, ByteArray.size_append, hsz.out]; have := fu.out.2; omega
         have hcx : V.countL (l.take (j + 1)) <= (j + 1) * 1000 := by rw [hts.out, V.countL_append]; have := fu.out.2; simp only [V.countL]; omega
         have hnn : (((A8 x p).length : Int) != ((A8 x p).length : Int)) = false := by simp
         replace hb9 := Hd hb9
         clear p07 p17 p27 p37 p47 p57
         clear hb8
         go_wp2_with fail
         go_roundw
         case rel => exact ⟨j + 1, by omega, by go_num, by rw [hts.out, E8], hnx, hcx, hb9.out⟩
         case measure => simp [intOf]; omega
     · obtain rfl : j = n := by omega
       have hjl : l.take j = l := List.take_of_length_le (by have := hn.out; omega)
       rw [hjl] at hpz hcz ⊢
       obtain ⟨W9, hW9⟩ : ∃ W9, W9 = wr.alloc (.cells #[.int .i64 5, .string ⟨#[]⟩, .int .i64 0, .float .f64 0, .bool false, .slice ad j cap] 26) := ⟨_, rfl⟩
       have hb9 : Below wr.heap.size wr W9 := by rw [hW9]; exact (Below.refl _ _).alloc (Nat.le_refl _) _
       have hr9 : W9.rangeAt wr.heap.size 0 [.int .i64 5, .string ⟨#[]⟩, .int .i64 0, .float .f64 0, .bool false, .slice ad j cap] := by
         rw [hW9]; intro q u hq; rw [Nat.zero_add, World.cell?_alloc_new]; simpa using hq
       have hbw9 : Below w.heap.size w W9 := hbw.trans (hb9.mono hs1)
       have hv9 := hv.out.mono (Aa hbw9)
       have hcw : (V.mk 5 ⟨#[]⟩ 0 0 false l).count <= 10000 := by rw [V.count_eq]; show V.countL l + 1 <= _; omega
       have hsw : (V.mk 5 ⟨#[]⟩ 0 0 false l).sized := (V.sized_eq _).2 ⟨by show (0 : Nat) <= 9223372036854775807; decide, hs.out⟩
       have hrw : (V.mk 5 ⟨#[]⟩ 0 0 false l).ranged := (V.ranged_eq _).2 ⟨by show (-9223372036854775808 : Int) <= 0; decide, by show (0 : Int) <= 9223372036854775807; decide, by show (0 : Nat) < 18446744073709551616; decide, hr.out⟩
       have hrt : Calls Tryz.prog 18 #[.agg #[.int .i64 5, .string ⟨#[]⟩, .int .i64 0, .float .f64 0, .bool false, .slice ad j cap]] W9 fun e w' => e = .returned (.bool (B5 (.mk 5 ⟨#[]⟩ 0 0 false l))) /\ Below W9.heap.size W9 w' := by
         have h := hv9
         rw [hn.out] at h ⊢
         exact Fv (.mk 5 ⟨#[]⟩ 0 0 false l) ad cap W9 h hsw (by omega)
       replace hW9 := Hd hW9
       replace hbw9 := Hd hbw9
       replace hr9 := Hd hr9
       replace hv9 := Hd hv9
       replace hrt := Hd hrt
       replace hrw := Hd hrw
       replace hsw := Hd hsw
       obtain ⟨B9, hB9⟩ : ∃ B, wr.heap.size = B := ⟨_, rfl⟩
       replace hB9 := Hd hB9
       clear hb9 hbw
       go_upto_region 17 with fail
       rw [<- hW9.out, hB9.out]
       rw [hB9.out] at hr9
       go_wp2_with (refine wpList_load_mid rfl 26 _ rfl B9 0 rfl _ _ hr9.out Tryz.underlying26 rfl Af ?_)
       refine hrt.out.mono ?_
       rintro e W ⟨rfl, hb6⟩
       obtain ⟨r1, hr1⟩ : ∃ r1, r1 = B5 (.mk 5 ⟨#[]⟩ 0 0 false l) := ⟨_, rfl⟩
       rw [<- hr1]
       have hbW := hbw9.out.trans (hb6.mono hbw9.out.size)
       cases r1 with
       | false =>
         replace hbW := Hd hbW
         clear hr1 hb6 hjl hcw hpz hcz hlt hj hs1
         go_wp2_with fail
         go_ret
         exact ⟨rfl, hbW.out⟩
       | true =>
       have fu := (E7 hr1.symm).1
       clear hr1
       have hr9 := Ab hb6 hr9.out
       have hvW := hv9.out.mono (Aa hb6)
       obtain ⟨whole, hwe⟩ : ∃ whole : ByteArray, whole = ⟨(A8 (.mk 5 ⟨#[]⟩ 0 0 false l) p).toArray⟩ := ⟨_, rfl⟩
       have hpw : 0 < whole.size := by
         have h1 := (Dd (p := p) fu hrw.out (by omega)).1
         have h2 : whole.size = (A8 (.mk 5 ⟨#[]⟩ 0 0 false l) p).length := by rw [hwe]; exact Cy _
         omega
       obtain ⟨dg, hdg⟩ : ∃ dg, dg = ByteArray.extract ⟨#[48, 49, 50, 51, 52, 53, 54, 55, 56, 57]⟩ j (j + 1) := ⟨_, rfl⟩
       have hd1 : dg.size <= 10 := by
         have : (⟨#[48, 49, 50, 51, 52, 53, 54, 55, 56, 57]⟩ : ByteArray).size = 10 := rfl
         rw [hdg, ByteArray.size_extract]; omega
       obtain ⟨pts, hpts⟩ : ∃ pts, pts = C6 p l := ⟨_, rfl⟩
       have hwh : (⟨#[42]⟩ ++ dg ++ ⟨#[13, 10]⟩ ++ pts : ByteArray) = whole := by
         rw [hwe, bytesP_arr, <- hn.out, head_nine j (by omega), hdg, hpts]
       have hbyw : ∀ wx, Below W.heap.size W wx -> Calls Tryz.prog 16 #[.agg #[.int .i64 5, .string ⟨#[]⟩, .int .i64 0, .float .f64 0, .bool false, .slice ad j cap], .int .i64 p] wx fun e w' => ∃ v, e = .returned v /\ Below W.heap.size W w' /\ Below wx.heap.size wx w' /\ Row W.heap.size w' v whole /\ Below W.heap.size W w' := fun wx hI => by
         have h := Eb (.mk 5 ⟨#[]⟩ 0 0 false l) ad cap 8 p wx (by have h := hvW.mono (Aa hI); rw [hn.out] at h; exact h) fu hrw.out (by omega) (((hL.out.below (hbW.trans (hI.mono hbW.size)) (Nat.le_refl _)).mono (Nat.le_trans hbW.size hI.size)))
         rw [<- hwe] at h
         rw [hn.out]
         exact h.mono fun e w' ⟨b, he, hR, hb⟩ => ⟨b, he, hI.trans (hb.mono hI.size), hb, hR.mono hI.size, hI.trans (hb.mono hI.size)⟩
       have hsl : ∀ wx : World, (Instr.slice 9 (.string ⟨#[48, 49, 50, 51, 52, 53, 54, 55, 56, 57]⟩) (some (.int .i64 (j : Int))) (some (.int .i64 ((j : Int) + 1))) none).run Tryz.prog wx = .ok (.string dg) wx := fun wx => by
         have h10 : (⟨#[48, 49, 50, 51, 52, 53, 54, 55, 56, 57]⟩ : ByteArray).size = 10 := rfl
         have := run_slice_string (P := Tryz.prog) wx 9 ⟨#[48, 49, 50, 51, 52, 53, 54, 55, 56, 57]⟩ .i64 .i64 (j : Int) ((j : Int) + 1) Tryz.underlying9 (by omega) (by omega) (by rw [h10]; omega)
         rw [hdg]
         first | exact this | (trace_state; fail)
       have hw1 : IntKind.i64.wrap ((j : Int) + 1) = (j : Int) + 1 := IntWalk.i64_in _ (by omega)
       have hc13 : ¬ 9223372036854775807 < 1 + dg.size + 2 + pts.size := by rw [<- hpts] at hpz; omega
       rw [<- hpts]
       replace hwe := Hd hwe
       replace hdg := Hd hdg
       replace hpts := Hd hpts
       replace hvW := Hd hvW
       replace hbyw := Hd hbyw
       replace hr9 := Hd hr9
       replace hsl := Hd hsl
       replace hc13 := Hd hc13
       replace hwh := Hd hwh
       replace hbW := Hd hbW
       clear hb6 hjl hcw hpz hcz hlt hj hs1
       go_upto_region 19 with fail
       replace hbyw := hbyw.out
       replace hr9 := hr9.out
       replace hsl := hsl.out
       replace hc13 := hc13.out
       replace hwh := hwh.out
       refine wp_region_rely (l := [_, _, _, _, _, _, _, _, _, _, _, _, _, _, _, _]) (Below W.heap.size W) (Below W.heap.size W) szR (fun kG_ => ([fun v _ => v = .agg #[.int .i64 5, .string ⟨#[]⟩, .int .i64 0, .float .f64 0, .bool false, .slice ad j cap], fun v _ => v = .int .i64 p, fun v w => Row W.heap.size w v whole /\ Below W.heap.size W w, fun v _ => v = .string whole, fun v _ => v = .slice ad j cap, fun v _ => v = .int .i64 j, fun v _ => v = .slice ad j cap, fun v _ => v = .int .i64 j, fun v _ => v = .int .i64 (j + 1), fun v _ => v = .string dg, fun v _ => v = .string (⟨#[42]⟩ ++ dg), fun v _ => v = .string (⟨#[42]⟩ ++ dg ++ ⟨#[13, 10]⟩), fun v _ => v = .string pts, fun v _ => v = .string whole, fun v _ => v = .bool true, fun v _ => v = .bool true] : List (Value -> World -> Prop)).getD kG_ (fun _ _ => True)) (eats []) (isIn [15]) (by kernel_rfl) (by kernel_rfl) (by kernel_rfl) ((Below.refl _ _).drew) ((Below.refl _ _).drew) ?_ ?_ ?_ ?_
       · intro i kG_ u w w' hne hE hg hr
         rcases kG_ with _ | _ | _ | _ | _ | _ | _ | _ | _ | _ | _ | _ | _ | _ | _ | _ | kG_
         · exact hg
         · exact hg
         · replace hg : (fun (v : Value) (w : World) => Row W.heap.size w v whole /\ Below W.heap.size W w) u w := hg
           show (fun (v : Value) (w : World) => Row W.heap.size w v whole /\ Below W.heap.size W w) u w'
           dsimp only at hg ⊢
           replace hE : exB _ _ i 2 = false := hE
           replace hne : 2 ≠ i := hne
           unfold szR at hr
           split at hr
           all_goals first
             | exact absurd rfl hne
             | exact absurd (hE.symm.trans (by decide +kernel : exB _ _ _ _ = true)) (by decide)
             | (subst hr; exact hg)
             | ((obtain ⟨g1, g2⟩ := hg; exact ⟨g1.below hr (Nat.le_refl _), g2.trans (hr.mono g2.size)⟩))
         · exact hg
         · exact hg
         · exact hg
         · exact hg
         · exact hg
         · exact hg
         · exact hg
         · exact hg
         · exact hg
         · exact hg
         · exact hg
         · exact hg
         · exact hg
         · trivial
       · intro i w5 w6 hF hI hr
         unfold szR at hr
         split at hr
         · exact hI.trans (hr.mono hI.size)
         · subst hr; exact hI
       · refine ⟨?_, ?_, ?_, ?_, ?_, ?_, ?_, ?_, ?_, ?_, ?_, ?_, ?_, ?_, ?_, ?_, trivial⟩
         · refine VC.plain rfl fun a wx hf => ?_
           have s9 := hf.old 9 (by first | rfl | kernel_rfl)
           have q9 := Ah s9
           have hI := hf.start (by kernel_rfl)
           exact Bo rfl s9 (Ab hI hr9) Tryz.underlying26 rfl Af ⟨hf.c, rfl, rfl⟩
         · refine VC.plain rfl fun a wx hf => ?_
           have s1 := hf.old 1 (by first | rfl | kernel_rfl)
           have q1 := Ah s1
           exact Ac (by simp [go_sem, q1, hw1]) ⟨hf.c, rfl, rfl⟩
         · refine VC.plain rfl fun a wx hf => ?_
           obtain ⟨v58, g58, s58⟩ := hf.got 0 (by kernel_rfl) (by intro j hj; simp [eats] at hj) rfl rfl
           replace s58 := s58.trans (show v58 = .agg #[.int .i64 5, .string ⟨#[]⟩, .int .i64 0, .float .f64 0, .bool false, .slice ad j cap] from g58)
           clear g58
           have q58 := Ah s58
           obtain ⟨v59, g59, s59⟩ := hf.got 1 (by kernel_rfl) (by intro j hj; simp [eats] at hj) rfl rfl
           replace s59 := s59.trans (show v59 = .int .i64 p from g59)
           clear g59
           have q59 := Ah s59
           have hI := hf.start (by kernel_rfl)
           exact Bk (f := 16) (args := #[.agg #[.int .i64 5, .string ⟨#[]⟩, .int .i64 0, .float .f64 0, .bool false, .slice ad j cap], .int .i64 p]) (by simp [go_sem, q58, q59]) (hbyw wx hI)
         · refine VC.plain rfl fun a wx hf => ?_
           obtain ⟨v60, g60, s60⟩ := hf.got 2 (by kernel_rfl) (by intro j hj; simp [eats] at hj) rfl rfl
           have q60 := Ah s60
           replace g60 : (fun (v : Value) (w : World) => Row W.heap.size w v whole /\ Below W.heap.size W w) v60 wx := g60
           dsimp only at g60
           have hI := hf.start (by kernel_rfl)
           exact Ac (by simp [go_sem, q60, g60.1.back hpw]) ⟨hf.c, rfl, rfl⟩
         · refine VC.plain rfl fun a wx hf => ?_
           have s0 := hf.old 0 (by first | rfl | kernel_rfl)
           have q0 := Ah s0
           exact Ac (by simp [go_sem, q0, hw1]) ⟨hf.c, rfl, rfl⟩
         · refine VC.plain rfl fun a wx hf => ?_
           obtain ⟨v62, g62, s62⟩ := hf.got 4 (by kernel_rfl) (by intro j hj; simp [eats] at hj) rfl rfl
           replace s62 := s62.trans (show v62 = .slice ad j cap from g62)
           clear g62
           have q62 := Ah s62
           have hI := hf.start (by kernel_rfl)
           exact Ac (by simp [go_sem, q62, Tryz.underlying24]) ⟨hf.c, rfl, rfl⟩
         · refine VC.plain rfl fun a wx hf => ?_
           have s0 := hf.old 0 (by first | rfl | kernel_rfl)
           have q0 := Ah s0
           exact Ac (by simp [go_sem, q0, hw1]) ⟨hf.c, rfl, rfl⟩
         · refine VC.plain rfl fun a wx hf => ?_
           obtain ⟨v64, g64, s64⟩ := hf.got 6 (by kernel_rfl) (by intro j hj; simp [eats] at hj) rfl rfl
           replace s64 := s64.trans (show v64 = .slice ad j cap from g64)
           clear g64
           have q64 := Ah s64
           have hI := hf.start (by kernel_rfl)
           exact Ac (by simp [go_sem, q64, Tryz.underlying24]) ⟨hf.c, rfl, rfl⟩
         · refine VC.plain rfl fun a wx hf => ?_
           obtain ⟨v65, g65, s65⟩ := hf.got 7 (by kernel_rfl) (by intro j hj; simp [eats] at hj) rfl rfl
           replace s65 := s65.trans (show v65 = .int .i64 j from g65)
           clear g65
           have q65 := Ah s65
           exact Ac (by simp [go_sem, q65, hw1]) ⟨hf.c, rfl, rfl⟩
         · refine VC.plain rfl fun a wx hf => ?_
           obtain ⟨v63, g63, s63⟩ := hf.got 5 (by kernel_rfl) (by intro j hj; simp [eats] at hj) rfl rfl
           replace s63 := s63.trans (show v63 = .int .i64 j from g63)
           clear g63
           have q63 := Ah s63
           obtain ⟨v66, g66, s66⟩ := hf.got 8 (by kernel_rfl) (by intro j hj; simp [eats] at hj) rfl rfl
           replace s66 := s66.trans (show v66 = .int .i64 (j + 1) from g66)
           clear g66
           have q66 := Ah s66
           have hI := hf.start (by kernel_rfl)
           exact Ac (by simp [go_sem, q63, q66, hsl wx]) ⟨hf.c, rfl, rfl⟩
         · refine VC.plain rfl fun a wx hf => ?_
           obtain ⟨v67, g67, s67⟩ := hf.got 9 (by kernel_rfl) (by intro j hj; simp [eats] at hj) rfl rfl
           replace s67 := s67.trans (show v67 = .string dg from g67)
           clear g67
           have q67 := Ah s67
           have hI := hf.start (by kernel_rfl)
           exact Ac (by simp [go_sem, q67, Op.stringOp]; omega) ⟨hf.c, rfl, rfl⟩
         · refine VC.plain rfl fun a wx hf => ?_
           obtain ⟨v68, g68, s68⟩ := hf.got 10 (by kernel_rfl) (by intro j hj; simp [eats] at hj) rfl rfl
           replace s68 := s68.trans (show v68 = .string (⟨#[42]⟩ ++ dg) from g68)
           clear g68
           have q68 := Ah s68
           have hI := hf.start (by kernel_rfl)
           exact Ac (by simp [go_sem, q68, Op.stringOp]; omega) ⟨hf.c, rfl, rfl⟩
         · refine VC.plain rfl fun a wx hf => ?_
           have s5 := hf.old 5 (by first | rfl | kernel_rfl)
           have q5 := Ah s5
           exact Ac (by simp [go_sem, q5, hw1]) ⟨hf.c, rfl, rfl⟩
         · refine VC.plain rfl fun a wx hf => ?_
           obtain ⟨v69, g69, s69⟩ := hf.got 11 (by kernel_rfl) (by intro j hj; simp [eats] at hj) rfl rfl
           replace s69 := s69.trans (show v69 = .string (⟨#[42]⟩ ++ dg ++ ⟨#[13, 10]⟩) from g69)
           clear g69
           have q69 := Ah s69
           obtain ⟨v70, g70, s70⟩ := hf.got 12 (by kernel_rfl) (by intro j hj; simp [eats] at hj) rfl rfl
           replace s70 := s70.trans (show v70 = .string pts from g70)
           clear g70
           have q70 := Ah s70
           have hI := hf.start (by kernel_rfl)
           exact Ac (by simp [go_sem, q69, q70, Op.stringOp, hwh]; omega) ⟨hf.c, rfl, rfl⟩
         · refine VC.plain rfl fun a wx hf => ?_
           obtain ⟨v61, g61, s61⟩ := hf.got 3 (by kernel_rfl) (by intro j hj; simp [eats] at hj) rfl rfl
           replace s61 := s61.trans (show v61 = .string whole from g61)
           clear g61
           have q61 := Ah s61
           obtain ⟨v71, g71, s71⟩ := hf.got 13 (by kernel_rfl) (by intro j hj; simp [eats] at hj) rfl rfl
           replace s71 := s71.trans (show v71 = .string whole from g71)
           clear g71
           have q71 := Ah s71
           exact Ac (by simp [go_sem, q61, q71, hw1]) ⟨hf.c, rfl, rfl⟩
         · refine VC.plain rfl fun a wx hf => ?_
           obtain ⟨v72, g72, s72⟩ := hf.got 14 (by kernel_rfl) (by intro j hj; simp [eats] at hj) rfl rfl
           replace s72 := s72.trans (show v72 = .bool true from g72)
           clear g72
           have q72 := Ah s72
           have hI := hf.start (by kernel_rfl)
           exact Ac (by simp [go_sem, q72]) ⟨hf.c, rfl, rfl⟩
       · intro vs w9 hb9 hG
         have n15 : vs 15 = .bool true := hG 15 (by decide) (by decide)
         have hbf := hbW.out.trans (hb9.mono hbW.out.size)
         clear hbyw hr9 hsl hG hwh hc13
         simp only [putFrom, Act.put, List.setIfInBounds_toArray, List.set_cons_zero, List.set_cons_succ]
         go_wp2
         go_ret
         exact ⟨by rw [<- n15]; rfl, hbf⟩
end R2
end Go.Proofs.YtagkgfniihiinaaGreatDoor
