/- WireNames: its walk. -/
import Derived.Test.YtagkgfniihiinaaGreatDoorBytes2
namespace Go.Proofs.YtagkgfniihiinaaGreatDoor
open Go.RowKit Go.Joins
def nmL : List V := [.mk 6 ⟨#[]⟩ 0 0 false [], .mk 8 ⟨#[]⟩ 0 0 true [], .mk 7 ⟨#[]⟩ 0 4609434218613702656 false [], .mk 9 ⟨#[49, 50]⟩ 0 0 false [], .mk 11 ⟨#[116, 120, 116, 58, 104, 105]⟩ 0 0 false [], .mk 10 ⟨#[69, 10]⟩ 0 0 false [], .mk 13 ⟨#[]⟩ 0 0 false []]
def nmV : V := .mk 14 ⟨#[]⟩ 0 0 false nmL
def nmM : V := .mk 12 ⟨#[]⟩ 0 0 false (nmL.take 2)
def nm3 : ByteArray := ⟨#[62, 55, 13, 10, 95, 13, 10, 35, 116, 13, 10, 44, 49, 46, 53, 13, 10, 40, 49, 50, 13, 10, 61, 54, 13, 10, 116, 120, 116, 58, 104, 105, 13, 10, 33, 50, 13, 10, 69, 10, 13, 10, 126, 48, 13, 10]⟩
def nm2 : ByteArray := ⟨#[42, 55, 13, 10, 36, 45, 49, 13, 10, 58, 49, 13, 10, 36, 51, 13, 10, 49, 46, 53, 13, 10, 36, 50, 13, 10, 49, 50, 13, 10, 36, 50, 13, 10, 104, 105, 13, 10, 45, 69, 32, 13, 10, 42, 48, 13, 10]⟩
def nmm : ByteArray := ⟨#[37, 49, 13, 10, 95, 13, 10, 35, 116, 13, 10]⟩
theorem nm3_eq : nmV.wire = [62, 55, 13, 10, 95, 13, 10, 35, 116, 13, 10, 44, 49, 46, 53, 13, 10, 40, 49, 50, 13, 10, 61, 54, 13, 10, 116, 120, 116, 58, 104, 105, 13, 10, 33, 50, 13, 10, 69, 10, 13, 10, 126, 48, 13, 10] := by decide +kernel
theorem nm2_eq : nmV.down.old = [42, 55, 13, 10, 36, 45, 49, 13, 10, 58, 49, 13, 10, 36, 51, 13, 10, 49, 46, 53, 13, 10, 36, 50, 13, 10, 49, 50, 13, 10, 36, 50, 13, 10, 104, 105, 13, 10, 45, 69, 32, 13, 10, 42, 48, 13, 10] := by decide +kernel
theorem nmm_eq : nmM.wire = [37, 49, 13, 10, 95, 13, 10, 35, 116, 13, 10] := by decide +kernel
theorem nmV_fine : nmV.fine 8 = true := by decide +kernel
theorem nmM_fine : nmM.fine 8 = true := by decide +kernel
theorem C0 : V.rangedL nmL := by
 refine Bm fun x hx => ?_
 simp only [nmL, List.mem_cons, List.not_mem_nil, or_false] at hx
 rcases hx with rfl | rfl | rfl | rfl | rfl | rfl | rfl <;> exact ⟨by decide, by decide, by decide, trivial⟩
theorem nm3_lit : (nm3.toList == [62, 55, 13, 10, 95, 13, 10, 35, 116, 13, 10, 44, 49, 46, 53, 13, 10, 40, 49, 50, 13, 10, 61, 54, 13, 10, 116, 120, 116, 58, 104, 105, 13, 10, 33, 50, 13, 10, 69, 10, 13, 10, 126, 48, 13, 10]) = true := by decide +kernel
theorem nm2_lit : (nm2.toList == [42, 55, 13, 10, 36, 45, 49, 13, 10, 58, 49, 13, 10, 36, 51, 13, 10, 49, 46, 53, 13, 10, 36, 50, 13, 10, 49, 50, 13, 10, 36, 50, 13, 10, 104, 105, 13, 10, 45, 69, 32, 13, 10, 42, 48, 13, 10]) = true := by decide +kernel
theorem nmm_lit : (nmm.toList == [37, 49, 13, 10, 95, 13, 10, 35, 116, 13, 10]) = true := by decide +kernel
def leafC (x : V) : List Value := Ab x.kind x.text x.int x.real x.flag none 0 0
theorem F3 (c : Addr -> Option Value) : ∀ l : List V, (∀ x ∈ l, x.list = []) -> RVs c (l.map leafC) l
 | [], _ => RVs.nil c
 | v :: l, h => by
   refine ⟨by simp, fun j x y hx hy => ?_⟩
   cases j with
   | zero =>
     simp only [List.map_cons, List.getElem?_cons_zero, Option.some.injEq] at hx hy
     subst hx; subst hy
     have h0 := h v (by simp)
     cases v
     simp only [V.list] at h0
     subst h0
     exact RV.leaf c _ _ _ _ _ none 0
   | succ j => exact (F3 c l fun x hx => h x (by simp [hx])).2 j x y (by simpa using hx) (by simpa using hy)
def B3 : Array Value := (nmL.map leafC).flatten.toArray
theorem nmCells_eq : B3 = #[.int .i64 6, .string ⟨#[]⟩, .int .i64 0, .float .f64 0, .bool false, .slice none 0 0, .int .i64 8, .string ⟨#[]⟩, .int .i64 0, .float .f64 0, .bool true, .slice none 0 0, .int .i64 7, .string ⟨#[]⟩, .int .i64 0, .float .f64 4609434218613702656, .bool false, .slice none 0 0, .int .i64 9, .string ⟨#[49, 50]⟩, .int .i64 0, .float .f64 0, .bool false, .slice none 0 0, .int .i64 11, .string ⟨#[116, 120, 116, 58, 104, 105]⟩, .int .i64 0, .float .f64 0, .bool false, .slice none 0 0, .int .i64 10, .string ⟨#[69, 10]⟩, .int .i64 0, .float .f64 0, .bool false, .slice none 0 0, .int .i64 13, .string ⟨#[]⟩, .int .i64 0, .float .f64 0, .bool false, .slice none 0 0] := rfl
theorem nm_row (w : World) : (w.alloc (.cells B3 26)).ownsRow w.heap.size 26 6 (.slice (some ⟨w.heap.size, 0, none⟩) 7 7) 7 (nmL.map leafC).flatten :=
 ⟨rfl, Or.inr ⟨w.heap.size, 7, B3, rfl, Nat.le_refl _, by show (w.heap.push _)[w.heap.size]? = _; simp, Nat.le_refl _, by unfold maxLen; omega, rfl, rfl⟩⟩
theorem nm_none : ∀ x ∈ nmL, x.list = [] := fun x hx => by
 simp only [nmL, List.mem_cons, List.not_mem_nil, or_false] at hx
 rcases hx with rfl | rfl | rfl | rfl | rfl | rfl | rfl <;> rfl
theorem nmV_rv {w w' : World} (hb : Below (w.heap.size + 1) (w.alloc (.cells B3 26)) w') : RV w'.cell? (Ab 14 ⟨#[]⟩ 0 0 false (some ⟨w.heap.size, 0, none⟩) 7 7) nmV := by
 have h := RV.of_row (v := nmV) (n := 7) rfl (nm_row w) (F3 _ nmL nm_none)
 have hs : (w.alloc (.cells B3 26)).heap.size = w.heap.size + 1 := by simp
 exact (h.mono Fs).mono (Aa (by rw [hs]; exact hb))
theorem nmM_rv {w w' : World} (hb : Below (w.heap.size + 1) (w.alloc (.cells B3 26)) w') (c : Nat) : RV w'.cell? (Ab 12 ⟨#[]⟩ 0 0 false (some ⟨w.heap.size, 0, none⟩) 2 c) nmM := by
 have h := (nmV_rv hb).out
 obtain ⟨a0, cap0, css, he, hl, hr, hv⟩ := h
 simp only [Ab, List.cons.injEq, Value.slice.injEq, and_true] at he
 obtain ⟨_, _, _, _, _, rfl, _, rfl⟩ := he
 refine RV.mk 12 ⟨#[]⟩ 0 0 false _ 2 c (nmL.take 2) (css.take 2) rfl ?_ (fun j x hx => ?_) (fun j x y hx hy => ?_)
 · rw [List.length_take, hl]; rfl
 · obtain ⟨b, o, e, k⟩ := hr j x (by rw [List.getElem?_take] at hx; split at hx; exact hx; cases hx)
   exact ⟨b, o, e, k⟩
 · exact hv j x y (by rw [List.getElem?_take] at hx; split at hx; exact hx; cases hx) (by rw [List.getElem?_take] at hy; split at hy; exact hy; cases hy)
set_option maxRecDepth 100000 in
set_option maxHeartbeats 6400000 in
theorem names04_any {w : World} (hN : Nums w) (hF : Flo w) : Calls Tryz.prog 3 #[] w fun e w' => e = .returned (.bool true) /\ Below w.heap.size w w' := by
 have hL := Laid.of hN
 have hLV := LaidV.of hN hF
 replace hL := Hd hL
 replace hLV := Hd hLV
 go_enter Tryz.func3, Tryz.ntmps3
 go_wp2_with fail
 refine (alive04_any w hL.out).mono ?_
 rintro e w1 ⟨rfl, hb1⟩
 have hB1 := hb1.size
 replace hb1 := Hd hb1
 clear hN hF
 go_upto_region 5 with fail
 obtain ⟨W2, hW2⟩ : ∃ W2, W2 = (w1.alloc (.cells #[.int .i64 6, .string ⟨#[]⟩, .int .i64 0, .float .f64 0, .bool false, .slice none 0 0, .int .i64 8, .string ⟨#[]⟩, .int .i64 0, .float .f64 0, .bool true, .slice none 0 0, .int .i64 7, .string ⟨#[]⟩, .int .i64 0, .float .f64 4609434218613702656, .bool false, .slice none 0 0, .int .i64 9, .string ⟨#[49, 50]⟩, .int .i64 0, .float .f64 0, .bool false, .slice none 0 0, .int .i64 11, .string ⟨#[116, 120, 116, 58, 104, 105]⟩, .int .i64 0, .float .f64 0, .bool false, .slice none 0 0, .int .i64 10, .string ⟨#[69, 10]⟩, .int .i64 0, .float .f64 0, .bool false, .slice none 0 0, .int .i64 13, .string ⟨#[]⟩, .int .i64 0, .float .f64 0, .bool false, .slice none 0 0] 26)).alloc (.cells #[.int .i64 14, .string ⟨#[]⟩, .int .i64 0, .float .f64 0, .bool false, .slice (some ⟨w1.heap.size, 0, none⟩) 7 7] 26) := ⟨_, rfl⟩
 rw [<- hW2]
 rw [<- nmCells_eq] at hW2
 have hs0 : (w1.alloc (.cells B3 26)).heap.size = w1.heap.size + 1 := by simp
 have hbx : Below (w1.heap.size + 1) (w1.alloc (.cells B3 26)) W2 := by rw [hW2]; exact (Below.refl _ _).alloc (by rw [hs0]; exact Nat.le_refl _) _
 have hb12 : Below w1.heap.size w1 W2 := ((Below.refl _ w1).alloc (Nat.le_refl _) _).trans (hbx.mono (by omega))
 have hs2 : W2.heap.size = w1.heap.size + 2 := by rw [hW2]; simp
 have hrA : W2.rangeAt (w1.heap.size + 1) 0 [.int .i64 14, .string ⟨#[]⟩, .int .i64 0, .float .f64 0, .bool false, .slice (some ⟨w1.heap.size, 0, none⟩) 7 7] := by
   rw [hW2]; intro q u hq; rw [Nat.zero_add, show w1.heap.size + 1 = (w1.alloc (.cells B3 26)).heap.size by simp, World.cell?_alloc_new]; simpa using hq
 have hbw : Below w.heap.size w W2 := hb1.out.trans (hb12.mono hB1)
 have hL2 : ∀ wx, Below W2.heap.size W2 wx -> LaidV wx.heap.size wx := fun wx h => ((hLV.out.below hbw (Nat.le_refl _)).mono hbw.size |>.below h (Nat.le_refl _)).mono h.size
 have hup : ∀ wx, Below W2.heap.size W2 wx -> Below (w1.heap.size + 1) (w1.alloc (.cells B3 26)) wx := fun wx h => hbx.trans (h.mono (by omega))
 have h3 : ∀ wx, Below W2.heap.size W2 wx -> Calls Tryz.prog 16 #[.agg #[.int .i64 14, .string ⟨#[]⟩, .int .i64 0, .float .f64 0, .bool false, .slice (some ⟨w1.heap.size, 0, none⟩) 7 7], .int .i64 3] wx fun e w' => ∃ b, e = .returned b /\ Row wx.heap.size w' b nm3 /\ Below wx.heap.size wx w' := fun wx h => by
   have := Du nmV (some ⟨w1.heap.size, 0, none⟩) 7 8 3 wx (nmV_rv (hup wx h)) nmV_fine ⟨by decide, by decide, by decide, C0⟩ (by decide) (hL2 wx h)
   rw [show Ew nmV 3 = nmV.wire from rfl, nm3_eq] at this
   exact this
 have h2 : ∀ wx, Below W2.heap.size W2 wx -> Calls Tryz.prog 16 #[.agg #[.int .i64 14, .string ⟨#[]⟩, .int .i64 0, .float .f64 0, .bool false, .slice (some ⟨w1.heap.size, 0, none⟩) 7 7], .int .i64 2] wx fun e w' => ∃ b, e = .returned b /\ Row wx.heap.size w' b nm2 /\ Below wx.heap.size wx w' := fun wx h => by
   have := Du nmV (some ⟨w1.heap.size, 0, none⟩) 7 8 2 wx (nmV_rv (hup wx h)) nmV_fine ⟨by decide, by decide, by decide, C0⟩ (by decide) (hL2 wx h)
   rw [show Ew nmV 2 = nmV.down.old from rfl, nm2_eq] at this
   exact this
 have hm : ∀ wx, Below W2.heap.size W2 wx -> Calls Tryz.prog 16 #[.agg #[.int .i64 12, .string ⟨#[]⟩, .int .i64 0, .float .f64 0, .bool false, .slice (some ⟨w1.heap.size, 0, none⟩) 2 7], .int .i64 3] wx fun e w' => ∃ b, e = .returned b /\ Row wx.heap.size w' b nmm /\ Below wx.heap.size wx w' := fun wx h => by
   have := Du nmM (some ⟨w1.heap.size, 0, none⟩) 7 8 3 wx (nmM_rv (hup wx h) 7) nmM_fine ⟨by decide, by decide, by decide, C0.1, C0.2.1, trivial⟩ (by decide) (hL2 wx h)
   rw [show Ew nmM 3 = nmM.wire from rfl, nmm_eq] at this
   exact this
 replace h3 := Hd h3
 replace h2 := Hd h2
 replace hm := Hd hm
 replace hW2 := Hd hW2
 replace hbw := Hd hbw
 replace hrA := Hd hrA
 replace hs2 := Hd hs2
 clear hs0 hbx hb12 hL2 hup
 go_wp2_with (refine wpList_load_mid rfl 26 _ rfl (w1.heap.size + 1) 0 rfl _ _ hrA.out Tryz.underlying26 rfl Ad ?_)
 refine (h3.out W2 (Below.refl _ _)).mono ?_
 rintro e w3 ⟨b3, rfl, hR3, hb3⟩
 have hcv3 := hR3.back (by decide)
 have hrA3 := Ak hb3 hrA.out
 have hb3' := hb3
 replace hb3 := Hd hb3
 have p0 := hrA3 0 _ rfl
 have p1 := hrA3 1 _ rfl
 have p2 := hrA3 2 _ rfl
 have p3 := hrA3 3 _ rfl
 have p4 := hrA3 4 _ rfl
 have p5 := hrA3 5 _ rfl
 rw [Nat.zero_add] at p0 p1 p2 p3 p4 p5
 clear hrA3
 have hq3 : (nm3.toList == [62, 55, 13, 10, 95, 13, 10, 35, 116, 13, 10, 44, 49, 46, 53, 13, 10, 40, 49, 50, 13, 10, 61, 54, 13, 10, 116, 120, 116, 58, 104, 105, 13, 10, 33, 50, 13, 10, 69, 10, 13, 10, 126, 48, 13, 10]) = true := nm3_lit
 clear hR3 hb3'
 go_wp2_with fail
 refine (h2.out w3 hb3.out).mono ?_
 rintro e w4 ⟨b4, rfl, hR4, hb4⟩
 have hb34 := hb3.out.trans (hb4.mono hb3.out.size)
 have hcv4 := hR4.back (by decide)
 replace hb34 := Hd hb34
 have hq4 : (nm2.toList == [42, 55, 13, 10, 36, 45, 49, 13, 10, 58, 49, 13, 10, 36, 51, 13, 10, 49, 46, 53, 13, 10, 36, 50, 13, 10, 49, 50, 13, 10, 36, 50, 13, 10, 104, 105, 13, 10, 45, 69, 32, 13, 10, 42, 48, 13, 10]) = true := nm2_lit
 clear hR4 hb4 p0 p1 p2 p3 p4 p5 hcv3
 go_wp2_with fail
 refine (hm.out w4 hb34.out).mono ?_
 rintro e w5 ⟨b5, rfl, hR5, hb5⟩
 have hb5' := hbw.out.trans ((hb34.out.trans (hb5.mono hb34.out.size)).mono hbw.out.size)
 have hcv5 := hR5.back (by decide)
 replace hb5' := Hd hb5'
 have hq5 : (nmm.toList == [37, 49, 13, 10, 95, 13, 10, 35, 116, 13, 10]) = true := nmm_lit
 clear hR5 hb5 hcv4
 go_wp2_with fail
 go_ret
 exact ⟨rfl, hb5'.out⟩
end Go.Proofs.YtagkgfniihiinaaGreatDoor
