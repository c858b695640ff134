/- wire.put, at every value. -/
import Derived.Test.YtagkgfniihiinaaGreatDoorJ21
import Derived.Test.YtagkgfniihiinaaGreatDoorQuiet
namespace Go.Proofs.YtagkgfniihiinaaGreatDoor
open Go.RowKit Go.Joins
theorem Bb {l : List V} {d : Int} (h : V.fineL l d = true) : ∀ x ∈ l, x.fine d = true := by
 induction l with
 | nil => intro x hx; cases hx
 | cons y l ih =>
   intro x hx
   simp only [V.fineL, Bool.and_eq_true] at h
   rcases List.mem_cons.1 hx with rfl | hx
   · exact h.1.2
   · exact ih h.2 x hx
theorem D2 (l : List V) (d : Int) (h : V.fineL l d = true) (r : V.rangedL l) (c : V.countL l <= 100000) : (V.wireL l).length <= 5000 * V.countL l := by
 induction l with
 | nil => exact Nat.zero_le _
 | cons p l ih =>
   simp only [V.fineL, Bool.and_eq_true] at h
   simp only [V.countL] at c ⊢
   have h1 := (Fo p d h.1.2 r.1 (by omega)).2
   have h2 := ih h.2 r.2 (by omega)
   rw [V.wireL, List.length_append]; omega
theorem Ag (w : World) (o : Obj) : (w.alloc o).heap[w.heap.size]? = some o := by show (w.heap.push _)[w.heap.size]? = _; simp
structure PutH (v : V) (k : Int) (t : ByteArray) (i : Int) (r : Nat) (f : Bool) (a : Option Addr) (n cap : Nat) (d : Int) (B : Nat) (w : World) (b : Value) (s : ByteArray) : Prop where
 val : RV (Er B w) (Ad k t i r f a n cap) v
 fine : v.fine d = true
 ranged : v.ranged
 count : v.count <= 100000
 laid : LaidV B w
 row : Row B w b s
 base : B <= w.heap.size
 size : s.size + 5000 * v.count <= 1000000000000
def PutQ (v : V) (B : Nat) (w : World) (s : ByteArray) (e : Ending) (w' : World) : Prop := ∃ b', e = .returned b' /\ Row B w' b' (s ++ ⟨v.wire.toArray⟩) /\ Below B w w' /\ NB w w'
set_option maxRecDepth 100000 in
set_option maxHeartbeats 3200000 in
theorem put_1 {v : V} {t : ByteArray} {i : Int} {r : Nat} {f : Bool} {a : Option Addr} {n cap : Nat} {d : Int} {B : Nat} {w : World} {b : Value} {s : ByteArray} (hp : PutH v 1 t i r f a n cap d B w b s) :
   Calls Tryz.prog 33 #[b, .agg #[.int .i64 1, .string t, .int .i64 i, .float .f64 r, .bool f, .slice a n cap]] w (PutQ v B w s) := by
 obtain ⟨hv, hf, hr, hc, hL, hR, hB, hs⟩ := hp
 obtain ⟨ek, et, ei, er, ef, en⟩ := hv.len
 have hfe := hf
 rw [V.fine_eq, Bool.and_eq_true, Bool.and_eq_true] at hfe
 have ok := Ao hfe.1.1
 have hts := ok.size
 rw [<- et] at hts
 have hra := hr
 rw [V.ranged_eq, <- ei, <- er] at hra
 have hcp := v.count_pos
 have hce0 := v.count_eq
 have hln := V.length_le v.list
 rw [<- en] at hln
 have hn9 : n <= 100000 := by omega
 clear hce0 hln
 replace hL := Hd hL
 replace hR := Hd hR
 replace hv := Hd hv
 replace hf := Hd hf
 replace hr := Hd hr
 replace ok := Hd ok
 replace hfe := Hd hfe
 replace hra := Hd hra
 replace ek := Hd ek
 replace et := Hd et
 replace ei := Hd ei
 replace er := Hd er
 replace ef := Hd ef
 replace en := Hd en
 have hwe : (⟨v.wire.toArray⟩ : ByteArray) = D7 43 t := by
   rw [<- Da]
   congr 1
   rw [V.wire_eq, <- ek.out]; (first | rfl | (rw [<- et.out]; rfl))
 replace hwe := Hd hwe
 have hix := Bd 1 (by omega)
 replace hix := Hd hix
 have hix := fun W => hix.out W
 obtain ⟨W1, hW1⟩ : ∃ W1, W1 = w.alloc (.cells #[.int .i64 1, .string t, .int .i64 i, .float .f64 r, .bool f, .slice a n cap] 26) := ⟨_, rfl⟩
 have hb0 : Below w.heap.size w W1 := by rw [hW1]; exact (Below.refl _ _).alloc (Nat.le_refl _) _
 have hcell : ∀ q u, #[.int .i64 1, .string t, .int .i64 i, .float .f64 r, .bool f, .slice a n cap][q]? = some u -> W1.cell? ⟨w.heap.size, q, none⟩ = some u := fun q u h => by rw [hW1, World.cell?_alloc_new]; exact h
 have c0 := hcell 0 (.int .i64 1) rfl
 have hlt : w.heap.size < W1.heap.size := World.block_lt_of_cell? _ _ c0
 replace hW1 := Hd hW1
 replace hcell := Hd hcell
 replace hb0 := Hd hb0
 go_enter Tryz.func33, Tryz.ntmps33
 go_wp2_with fail
 rw [<- hW1.out]
 go_wp2_with fail
 refine Al (by kernel_rfl) (by kernel_rfl) ?_
 repeat (go_big_quiet_step ((go_at_call 51; (with_reducible exact At (Ax _)))))
 refine wpQuiet_nil ?_
 rintro _ ⟨xq, rfl⟩
 have hS := An W1 xq
 obtain ⟨W2, hW2⟩ : ∃ W2, W2 = grow W1 xq := ⟨_, rfl⟩
 rw [<- hW2] at hS ⊢
 have g0 := Aa hS _ _ (hcell.out 0 (.int .i64 1) rfl)
 have g1 := Aa hS _ _ (hcell.out 1 (.string t) rfl)
 have g2 := Aa hS _ _ (hcell.out 2 (.int .i64 i) rfl)
 have g3 := Aa hS _ _ (hcell.out 3 (.float .f64 r) rfl)
 have g4 := Aa hS _ _ (hcell.out 4 (.bool f) rfl)
 have g5 := Aa hS _ _ (hcell.out 5 (.slice a n cap) rfl)
 have hb2 : Below w.heap.size w W2 := hb0.out.trans (hS.mono hb0.out.size)
 have hR2 := hR.out.below hb2 (Nat.le_refl _)
 have hL2 := hL.out.below hb2 hB
 have hB2 : B <= W2.heap.size := Nat.le_trans hB hb2.size
 have hbB : Below B w W2 := hb2.mono hB
 have nb2 : NB w W2 := NB.of_below hb2
 have hbox : W2.heap[w.heap.size]? = some (.cells #[.int .i64 1, .string t, .int .i64 i, .float .f64 r, .bool f, .slice a n cap] 26) := by rw [hS.block _ hlt, hW1.out]; exact Ag _ _
 clear c0 hS hlt
 replace nb2 := Hd nb2
 replace hbox := Hd hbox
 replace hW2 := Hd hW2
 replace hR2 := Hd hR2
 replace hL2 := Hd hL2
 replace hbB := Hd hbB
 replace hb2 := Hd hb2
 go_wp2_with fail
 refine (Cz 43 t hR2.out hB2 (by omega) (by omega)).mono ?_
 rintro e w3 ⟨b', rfl, hR3, hb3, n3⟩
 rw [<- hwe.out] at hR3
 have hb13 := hbB.out.trans hb3
 have nb3 := nb2.out.trans n3
 replace hR3 := Hd hR3
 replace hb13 := Hd hb13
 replace nb3 := Hd nb3
 clear hb3 n3 g0 g1 g2 g3 g4 g5
 go_wp2_with fail
 go_ret
 exact ⟨_, rfl, hR3.out, hb13.out, nb3.out⟩
set_option maxRecDepth 100000 in
set_option maxHeartbeats 3200000 in
theorem put_2 {v : V} {t : ByteArray} {i : Int} {r : Nat} {f : Bool} {a : Option Addr} {n cap : Nat} {d : Int} {B : Nat} {w : World} {b : Value} {s : ByteArray} (hp : PutH v 2 t i r f a n cap d B w b s) :
   Calls Tryz.prog 33 #[b, .agg #[.int .i64 2, .string t, .int .i64 i, .float .f64 r, .bool f, .slice a n cap]] w (PutQ v B w s) := by
 obtain ⟨hv, hf, hr, hc, hL, hR, hB, hs⟩ := hp
 obtain ⟨ek, et, ei, er, ef, en⟩ := hv.len
 have hfe := hf
 rw [V.fine_eq, Bool.and_eq_true, Bool.and_eq_true] at hfe
 have ok := Ao hfe.1.1
 have hts := ok.size
 rw [<- et] at hts
 have hra := hr
 rw [V.ranged_eq, <- ei, <- er] at hra
 have hcp := v.count_pos
 have hce0 := v.count_eq
 have hln := V.length_le v.list
 rw [<- en] at hln
 have hn9 : n <= 100000 := by omega
 clear hce0 hln
 replace hL := Hd hL
 replace hR := Hd hR
 replace hv := Hd hv
 replace hf := Hd hf
 replace hr := Hd hr
 replace ok := Hd ok
 replace hfe := Hd hfe
 replace hra := Hd hra
 replace ek := Hd ek
 replace et := Hd et
 replace ei := Hd ei
 replace er := Hd er
 replace ef := Hd ef
 replace en := Hd en
 have hwe : (⟨v.wire.toArray⟩ : ByteArray) = D7 45 t := by
   rw [<- Da]
   congr 1
   rw [V.wire_eq, <- ek.out]; (first | rfl | (rw [<- et.out]; rfl))
 replace hwe := Hd hwe
 have hix := Bd 2 (by omega)
 replace hix := Hd hix
 have hix := fun W => hix.out W
 obtain ⟨W1, hW1⟩ : ∃ W1, W1 = w.alloc (.cells #[.int .i64 2, .string t, .int .i64 i, .float .f64 r, .bool f, .slice a n cap] 26) := ⟨_, rfl⟩
 have hb0 : Below w.heap.size w W1 := by rw [hW1]; exact (Below.refl _ _).alloc (Nat.le_refl _) _
 have hcell : ∀ q u, #[.int .i64 2, .string t, .int .i64 i, .float .f64 r, .bool f, .slice a n cap][q]? = some u -> W1.cell? ⟨w.heap.size, q, none⟩ = some u := fun q u h => by rw [hW1, World.cell?_alloc_new]; exact h
 have c0 := hcell 0 (.int .i64 2) rfl
 have hlt : w.heap.size < W1.heap.size := World.block_lt_of_cell? _ _ c0
 replace hW1 := Hd hW1
 replace hcell := Hd hcell
 replace hb0 := Hd hb0
 go_enter Tryz.func33, Tryz.ntmps33
 go_wp2_with fail
 rw [<- hW1.out]
 go_wp2_with fail
 refine Al (by kernel_rfl) (by kernel_rfl) ?_
 repeat (go_big_quiet_step ((go_at_call 51; (with_reducible exact At (Ax _)))))
 refine wpQuiet_nil ?_
 rintro _ ⟨xq, rfl⟩
 have hS := An W1 xq
 obtain ⟨W2, hW2⟩ : ∃ W2, W2 = grow W1 xq := ⟨_, rfl⟩
 rw [<- hW2] at hS ⊢
 have g0 := Aa hS _ _ (hcell.out 0 (.int .i64 2) rfl)
 have g1 := Aa hS _ _ (hcell.out 1 (.string t) rfl)
 have g2 := Aa hS _ _ (hcell.out 2 (.int .i64 i) rfl)
 have g3 := Aa hS _ _ (hcell.out 3 (.float .f64 r) rfl)
 have g4 := Aa hS _ _ (hcell.out 4 (.bool f) rfl)
 have g5 := Aa hS _ _ (hcell.out 5 (.slice a n cap) rfl)
 have hb2 : Below w.heap.size w W2 := hb0.out.trans (hS.mono hb0.out.size)
 have hR2 := hR.out.below hb2 (Nat.le_refl _)
 have hL2 := hL.out.below hb2 hB
 have hB2 : B <= W2.heap.size := Nat.le_trans hB hb2.size
 have hbB : Below B w W2 := hb2.mono hB
 have nb2 : NB w W2 := NB.of_below hb2
 have hbox : W2.heap[w.heap.size]? = some (.cells #[.int .i64 2, .string t, .int .i64 i, .float .f64 r, .bool f, .slice a n cap] 26) := by rw [hS.block _ hlt, hW1.out]; exact Ag _ _
 clear c0 hS hlt
 replace nb2 := Hd nb2
 replace hbox := Hd hbox
 replace hW2 := Hd hW2
 replace hR2 := Hd hR2
 replace hL2 := Hd hL2
 replace hbB := Hd hbB
 replace hb2 := Hd hb2
 go_wp2_with fail
 refine (Cz 45 t hR2.out hB2 (by omega) (by omega)).mono ?_
 rintro e w3 ⟨b', rfl, hR3, hb3, n3⟩
 rw [<- hwe.out] at hR3
 have hb13 := hbB.out.trans hb3
 have nb3 := nb2.out.trans n3
 replace hR3 := Hd hR3
 replace hb13 := Hd hb13
 replace nb3 := Hd nb3
 clear hb3 n3 g0 g1 g2 g3 g4 g5
 go_wp2_with fail
 go_ret
 exact ⟨_, rfl, hR3.out, hb13.out, nb3.out⟩
set_option maxRecDepth 100000 in
set_option maxHeartbeats 3200000 in
theorem put_9 {v : V} {t : ByteArray} {i : Int} {r : Nat} {f : Bool} {a : Option Addr} {n cap : Nat} {d : Int} {B : Nat} {w : World} {b : Value} {s : ByteArray} (hp : PutH v 9 t i r f a n cap d B w b s) :
   Calls Tryz.prog 33 #[b, .agg #[.int .i64 9, .string t, .int .i64 i, .float .f64 r, .bool f, .slice a n cap]] w (PutQ v B w s) := by
 obtain ⟨hv, hf, hr, hc, hL, hR, hB, hs⟩ := hp
 obtain ⟨ek, et, ei, er, ef, en⟩ := hv.len
 have hfe := hf
 rw [V.fine_eq, Bool.and_eq_true, Bool.and_eq_true] at hfe
 have ok := Ao hfe.1.1
 have hts := ok.size
 rw [<- et] at hts
 have hra := hr
 rw [V.ranged_eq, <- ei, <- er] at hra
 have hcp := v.count_pos
 have hce0 := v.count_eq
 have hln := V.length_le v.list
 rw [<- en] at hln
 have hn9 : n <= 100000 := by omega
 clear hce0 hln
 replace hL := Hd hL
 replace hR := Hd hR
 replace hv := Hd hv
 replace hf := Hd hf
 replace hr := Hd hr
 replace ok := Hd ok
 replace hfe := Hd hfe
 replace hra := Hd hra
 replace ek := Hd ek
 replace et := Hd et
 replace ei := Hd ei
 replace er := Hd er
 replace ef := Hd ef
 replace en := Hd en
 have hwe : (⟨v.wire.toArray⟩ : ByteArray) = D7 40 t := by
   rw [<- Da]
   congr 1
   rw [V.wire_eq, <- ek.out]; (first | rfl | (rw [<- et.out]; rfl))
 replace hwe := Hd hwe
 have hix := Bd 9 (by omega)
 replace hix := Hd hix
 have hix := fun W => hix.out W
 obtain ⟨W1, hW1⟩ : ∃ W1, W1 = w.alloc (.cells #[.int .i64 9, .string t, .int .i64 i, .float .f64 r, .bool f, .slice a n cap] 26) := ⟨_, rfl⟩
 have hb0 : Below w.heap.size w W1 := by rw [hW1]; exact (Below.refl _ _).alloc (Nat.le_refl _) _
 have hcell : ∀ q u, #[.int .i64 9, .string t, .int .i64 i, .float .f64 r, .bool f, .slice a n cap][q]? = some u -> W1.cell? ⟨w.heap.size, q, none⟩ = some u := fun q u h => by rw [hW1, World.cell?_alloc_new]; exact h
 have c0 := hcell 0 (.int .i64 9) rfl
 have hlt : w.heap.size < W1.heap.size := World.block_lt_of_cell? _ _ c0
 replace hW1 := Hd hW1
 replace hcell := Hd hcell
 replace hb0 := Hd hb0
 go_enter Tryz.func33, Tryz.ntmps33
 go_wp2_with fail
 rw [<- hW1.out]
 go_wp2_with fail
 refine Al (by kernel_rfl) (by kernel_rfl) ?_
 repeat (go_big_quiet_step ((go_at_call 51; (with_reducible exact At (Ax _)))))
 refine wpQuiet_nil ?_
 rintro _ ⟨xq, rfl⟩
 have hS := An W1 xq
 obtain ⟨W2, hW2⟩ : ∃ W2, W2 = grow W1 xq := ⟨_, rfl⟩
 rw [<- hW2] at hS ⊢
 have g0 := Aa hS _ _ (hcell.out 0 (.int .i64 9) rfl)
 have g1 := Aa hS _ _ (hcell.out 1 (.string t) rfl)
 have g2 := Aa hS _ _ (hcell.out 2 (.int .i64 i) rfl)
 have g3 := Aa hS _ _ (hcell.out 3 (.float .f64 r) rfl)
 have g4 := Aa hS _ _ (hcell.out 4 (.bool f) rfl)
 have g5 := Aa hS _ _ (hcell.out 5 (.slice a n cap) rfl)
 have hb2 : Below w.heap.size w W2 := hb0.out.trans (hS.mono hb0.out.size)
 have hR2 := hR.out.below hb2 (Nat.le_refl _)
 have hL2 := hL.out.below hb2 hB
 have hB2 : B <= W2.heap.size := Nat.le_trans hB hb2.size
 have hbB : Below B w W2 := hb2.mono hB
 have nb2 : NB w W2 := NB.of_below hb2
 have hbox : W2.heap[w.heap.size]? = some (.cells #[.int .i64 9, .string t, .int .i64 i, .float .f64 r, .bool f, .slice a n cap] 26) := by rw [hS.block _ hlt, hW1.out]; exact Ag _ _
 clear c0 hS hlt
 replace nb2 := Hd nb2
 replace hbox := Hd hbox
 replace hW2 := Hd hW2
 replace hR2 := Hd hR2
 replace hL2 := Hd hL2
 replace hbB := Hd hbB
 replace hb2 := Hd hb2
 go_wp2_with fail
 refine (Cz 40 t hR2.out hB2 (by omega) (by omega)).mono ?_
 rintro e w3 ⟨b', rfl, hR3, hb3, n3⟩
 rw [<- hwe.out] at hR3
 have hb13 := hbB.out.trans hb3
 have nb3 := nb2.out.trans n3
 replace hR3 := Hd hR3
 replace hb13 := Hd hb13
 replace nb3 := Hd nb3
 clear hb3 n3 g0 g1 g2 g3 g4 g5
 go_wp2_with fail
 go_ret
 exact ⟨_, rfl, hR3.out, hb13.out, nb3.out⟩
set_option maxRecDepth 100000 in
set_option maxHeartbeats 3200000 in
theorem put_3 {v : V} {t : ByteArray} {i : Int} {r : Nat} {f : Bool} {a : Option Addr} {n cap : Nat} {d : Int} {B : Nat} {w : World} {b : Value} {s : ByteArray} (hp : PutH v 3 t i r f a n cap d B w b s) :
   Calls Tryz.prog 33 #[b, .agg #[.int .i64 3, .string t, .int .i64 i, .float .f64 r, .bool f, .slice a n cap]] w (PutQ v B w s) := by
 obtain ⟨hv, hf, hr, hc, hL, hR, hB, hs⟩ := hp
 obtain ⟨ek, et, ei, er, ef, en⟩ := hv.len
 have hfe := hf
 rw [V.fine_eq, Bool.and_eq_true, Bool.and_eq_true] at hfe
 have ok := Ao hfe.1.1
 have hts := ok.size
 rw [<- et] at hts
 have hra := hr
 rw [V.ranged_eq, <- ei, <- er] at hra
 have hcp := v.count_pos
 have hce0 := v.count_eq
 have hln := V.length_le v.list
 rw [<- en] at hln
 have hn9 : n <= 100000 := by omega
 clear hce0 hln
 replace hL := Hd hL
 replace hR := Hd hR
 replace hv := Hd hv
 replace hf := Hd hf
 replace hr := Hd hr
 replace ok := Hd ok
 replace hfe := Hd hfe
 replace hra := Hd hra
 replace ek := Hd ek
 replace et := Hd et
 replace ei := Hd ei
 replace er := Hd er
 replace ef := Hd ef
 replace en := Hd en
 have hwe : (⟨v.wire.toArray⟩ : ByteArray) = numB 58 i := by
   rw [<- Cq]
   congr 1
   rw [V.wire_eq, <- ek.out, <- ei.out]; rfl
 replace hwe := Hd hwe
 have hix := Bd 3 (by omega)
 replace hix := Hd hix
 have hix := fun W => hix.out W
 obtain ⟨W1, hW1⟩ : ∃ W1, W1 = w.alloc (.cells #[.int .i64 3, .string t, .int .i64 i, .float .f64 r, .bool f, .slice a n cap] 26) := ⟨_, rfl⟩
 have hb0 : Below w.heap.size w W1 := by rw [hW1]; exact (Below.refl _ _).alloc (Nat.le_refl _) _
 have hcell : ∀ q u, #[.int .i64 3, .string t, .int .i64 i, .float .f64 r, .bool f, .slice a n cap][q]? = some u -> W1.cell? ⟨w.heap.size, q, none⟩ = some u := fun q u h => by rw [hW1, World.cell?_alloc_new]; exact h
 have c0 := hcell 0 (.int .i64 3) rfl
 have hlt : w.heap.size < W1.heap.size := World.block_lt_of_cell? _ _ c0
 replace hW1 := Hd hW1
 replace hcell := Hd hcell
 replace hb0 := Hd hb0
 go_enter Tryz.func33, Tryz.ntmps33
 go_wp2_with fail
 rw [<- hW1.out]
 go_wp2_with fail
 refine Al (by kernel_rfl) (by kernel_rfl) ?_
 repeat (go_big_quiet_step ((go_at_call 51; (with_reducible exact At (Ax _)))))
 refine wpQuiet_nil ?_
 rintro _ ⟨xq, rfl⟩
 have hS := An W1 xq
 obtain ⟨W2, hW2⟩ : ∃ W2, W2 = grow W1 xq := ⟨_, rfl⟩
 rw [<- hW2] at hS ⊢
 have g0 := Aa hS _ _ (hcell.out 0 (.int .i64 3) rfl)
 have g1 := Aa hS _ _ (hcell.out 1 (.string t) rfl)
 have g2 := Aa hS _ _ (hcell.out 2 (.int .i64 i) rfl)
 have g3 := Aa hS _ _ (hcell.out 3 (.float .f64 r) rfl)
 have g4 := Aa hS _ _ (hcell.out 4 (.bool f) rfl)
 have g5 := Aa hS _ _ (hcell.out 5 (.slice a n cap) rfl)
 have hb2 : Below w.heap.size w W2 := hb0.out.trans (hS.mono hb0.out.size)
 have hR2 := hR.out.below hb2 (Nat.le_refl _)
 have hL2 := hL.out.below hb2 hB
 have hB2 : B <= W2.heap.size := Nat.le_trans hB hb2.size
 have hbB : Below B w W2 := hb2.mono hB
 have nb2 : NB w W2 := NB.of_below hb2
 have hbox : W2.heap[w.heap.size]? = some (.cells #[.int .i64 3, .string t, .int .i64 i, .float .f64 r, .bool f, .slice a n cap] 26) := by rw [hS.block _ hlt, hW1.out]; exact Ag _ _
 clear c0 hS hlt
 replace nb2 := Hd nb2
 replace hbox := Hd hbox
 replace hW2 := Hd hW2
 replace hR2 := Hd hR2
 replace hL2 := Hd hL2
 replace hbB := Hd hbB
 replace hb2 := Hd hb2
 go_wp2_with fail
 refine (Bi 58 i hra.out.1 hra.out.2.1 hL2.out.nums hR2.out hB2 (by omega)).mono ?_
 rintro e w3 ⟨b', rfl, hR3, hb3, n3⟩
 rw [<- hwe.out] at hR3
 have hb13 := hbB.out.trans hb3
 have nb3 := nb2.out.trans n3
 replace hR3 := Hd hR3
 replace hb13 := Hd hb13
 replace nb3 := Hd nb3
 clear hb3 n3 g0 g1 g2 g3 g4 g5
 go_wp2_with fail
 go_ret
 exact ⟨_, rfl, hR3.out, hb13.out, nb3.out⟩
set_option maxRecDepth 100000 in
set_option maxHeartbeats 3200000 in
theorem put_7 {v : V} {t : ByteArray} {i : Int} {r : Nat} {f : Bool} {a : Option Addr} {n cap : Nat} {d : Int} {B : Nat} {w : World} {b : Value} {s : ByteArray} (hp : PutH v 7 t i r f a n cap d B w b s) :
   Calls Tryz.prog 33 #[b, .agg #[.int .i64 7, .string t, .int .i64 i, .float .f64 r, .bool f, .slice a n cap]] w (PutQ v B w s) := by
 obtain ⟨hv, hf, hr, hc, hL, hR, hB, hs⟩ := hp
 obtain ⟨ek, et, ei, er, ef, en⟩ := hv.len
 have hfe := hf
 rw [V.fine_eq, Bool.and_eq_true, Bool.and_eq_true] at hfe
 have ok := Ao hfe.1.1
 have hts := ok.size
 rw [<- et] at hts
 have hra := hr
 rw [V.ranged_eq, <- ei, <- er] at hra
 have hcp := v.count_pos
 have hce0 := v.count_eq
 have hln := V.length_le v.list
 rw [<- en] at hln
 have hn9 : n <= 100000 := by omega
 clear hce0 hln
 replace hL := Hd hL
 replace hR := Hd hR
 replace hv := Hd hv
 replace hf := Hd hf
 replace hr := Hd hr
 replace ok := Hd ok
 replace hfe := Hd hfe
 replace hra := Hd hra
 replace ek := Hd ek
 replace et := Hd et
 replace ei := Hd ei
 replace er := Hd er
 replace ef := Hd ef
 replace en := Hd en
 have hwe : (⟨v.wire.toArray⟩ : ByteArray) = D7 44 ⟨(Bh r).toArray⟩ := by
   rw [<- Da]
   congr 1
   rw [V.wire_eq, <- ek.out, <- er.out]; rfl
 replace hwe := Hd hwe
 have hix := Bd 7 (by omega)
 replace hix := Hd hix
 have hix := fun W => hix.out W
 obtain ⟨W1, hW1⟩ : ∃ W1, W1 = w.alloc (.cells #[.int .i64 7, .string t, .int .i64 i, .float .f64 r, .bool f, .slice a n cap] 26) := ⟨_, rfl⟩
 have hb0 : Below w.heap.size w W1 := by rw [hW1]; exact (Below.refl _ _).alloc (Nat.le_refl _) _
 have hcell : ∀ q u, #[.int .i64 7, .string t, .int .i64 i, .float .f64 r, .bool f, .slice a n cap][q]? = some u -> W1.cell? ⟨w.heap.size, q, none⟩ = some u := fun q u h => by rw [hW1, World.cell?_alloc_new]; exact h
 have c0 := hcell 0 (.int .i64 7) rfl
 have hlt : w.heap.size < W1.heap.size := World.block_lt_of_cell? _ _ c0
 replace hW1 := Hd hW1
 replace hcell := Hd hcell
 replace hb0 := Hd hb0
 go_enter Tryz.func33, Tryz.ntmps33
 go_wp2_with fail
 rw [<- hW1.out]
 go_wp2_with fail
 refine Al (by kernel_rfl) (by kernel_rfl) ?_
 repeat (go_big_quiet_step ((go_at_call 51; (with_reducible exact At (Ax _)))))
 refine wpQuiet_nil ?_
 rintro _ ⟨xq, rfl⟩
 have hS := An W1 xq
 obtain ⟨W2, hW2⟩ : ∃ W2, W2 = grow W1 xq := ⟨_, rfl⟩
 rw [<- hW2] at hS ⊢
 have g0 := Aa hS _ _ (hcell.out 0 (.int .i64 7) rfl)
 have g1 := Aa hS _ _ (hcell.out 1 (.string t) rfl)
 have g2 := Aa hS _ _ (hcell.out 2 (.int .i64 i) rfl)
 have g3 := Aa hS _ _ (hcell.out 3 (.float .f64 r) rfl)
 have g4 := Aa hS _ _ (hcell.out 4 (.bool f) rfl)
 have g5 := Aa hS _ _ (hcell.out 5 (.slice a n cap) rfl)
 have hb2 : Below w.heap.size w W2 := hb0.out.trans (hS.mono hb0.out.size)
 have hR2 := hR.out.below hb2 (Nat.le_refl _)
 have hL2 := hL.out.below hb2 hB
 have hB2 : B <= W2.heap.size := Nat.le_trans hB hb2.size
 have hbB : Below B w W2 := hb2.mono hB
 have nb2 : NB w W2 := NB.of_below hb2
 have hbox : W2.heap[w.heap.size]? = some (.cells #[.int .i64 7, .string t, .int .i64 i, .float .f64 r, .bool f, .slice a n cap] 26) := by rw [hS.block _ hlt, hW1.out]; exact Ag _ _
 clear c0 hS hlt
 replace nb2 := Hd nb2
 replace hbox := Hd hbox
 replace hW2 := Hd hW2
 replace hR2 := Hd hR2
 replace hL2 := Hd hL2
 replace hbB := Hd hbB
 replace hb2 := Hd hb2
 go_wp2_with fail
 refine (Eg hra.out.2.2.1 hL2.out.isFlo).mono ?_
 rintro e w5 ⟨T, rfl, hT, hb5⟩
 have hTl : T.size <= 25 := by rw [Cy, hT]; exact F3 hra.out.2.2.1
 have hTe : T = ⟨(Bh r).toArray⟩ := txt_eq hT
 have hR5 := hR2.out.below hb5 (Nat.le_refl _)
 have hb25 := hb5.mono hB2
 have hB5 : B <= w5.heap.size := Nat.le_trans hB2 hb5.size
 have n5 := NB.of_below hb5
 replace n5 := Hd n5
 replace hTe := Hd hTe
 replace hR5 := Hd hR5
 replace hb25 := Hd hb25
 clear hb5 hT
 go_wp2_with fail
 refine (Cz 44 T hR5.out hB5 (by omega) (by omega)).mono ?_
 rintro e w3 ⟨b', rfl, hR3, hb3, n3⟩
 replace hb3 := hb25.out.trans hb3
 replace n3 := n5.out.trans n3
 rw [hTe.out] at hR3
 rw [<- hwe.out] at hR3
 have hb13 := hbB.out.trans hb3
 have nb3 := nb2.out.trans n3
 replace hR3 := Hd hR3
 replace hb13 := Hd hb13
 replace nb3 := Hd nb3
 clear hb3 n3 g0 g1 g2 g3 g4 g5
 go_wp2_with fail
 go_ret
 exact ⟨_, rfl, hR3.out, hb13.out, nb3.out⟩
set_option maxRecDepth 100000 in
set_option maxHeartbeats 3200000 in
theorem put_8 {v : V} {t : ByteArray} {i : Int} {r : Nat} {f : Bool} {a : Option Addr} {n cap : Nat} {d : Int} {B : Nat} {w : World} {b : Value} {s : ByteArray} (hp : PutH v 8 t i r f a n cap d B w b s) :
   Calls Tryz.prog 33 #[b, .agg #[.int .i64 8, .string t, .int .i64 i, .float .f64 r, .bool f, .slice a n cap]] w (PutQ v B w s) := by
 obtain ⟨hv, hf, hr, hc, hL, hR, hB, hs⟩ := hp
 obtain ⟨ek, et, ei, er, ef, en⟩ := hv.len
 have hfe := hf
 rw [V.fine_eq, Bool.and_eq_true, Bool.and_eq_true] at hfe
 have ok := Ao hfe.1.1
 have hts := ok.size
 rw [<- et] at hts
 have hra := hr
 rw [V.ranged_eq, <- ei, <- er] at hra
 have hcp := v.count_pos
 have hce0 := v.count_eq
 have hln := V.length_le v.list
 rw [<- en] at hln
 have hn9 : n <= 100000 := by omega
 clear hce0 hln
 replace hL := Hd hL
 replace hR := Hd hR
 replace hv := Hd hv
 replace hf := Hd hf
 replace hr := Hd hr
 replace ok := Hd ok
 replace hfe := Hd hfe
 replace hra := Hd hra
 replace ek := Hd ek
 replace et := Hd et
 replace ei := Hd ei
 replace er := Hd er
 replace ef := Hd ef
 replace en := Hd en
 have hwe : ∀ c : UInt8, c = (if f then 116 else 102) -> (⟨v.wire.toArray⟩ : ByteArray) = D7 35 ⟨#[c]⟩ := fun c hc => by
   rw [<- Da]
   congr 1
   rw [V.wire_eq, <- ek.out, <- ef.out, hc]
   cases f <;> rfl
 cases f with
 | true =>
   replace hwe := hwe 116 rfl
   replace hwe := Hd hwe
   have hix := Bd 8 (by omega)
   replace hix := Hd hix
   have hix := fun W => hix.out W
   obtain ⟨W1, hW1⟩ : ∃ W1, W1 = w.alloc (.cells #[.int .i64 8, .string t, .int .i64 i, .float .f64 r, .bool true, .slice a n cap] 26) := ⟨_, rfl⟩
   have hb0 : Below w.heap.size w W1 := by rw [hW1]; exact (Below.refl _ _).alloc (Nat.le_refl _) _
   have hcell : ∀ q u, #[.int .i64 8, .string t, .int .i64 i, .float .f64 r, .bool true, .slice a n cap][q]? = some u -> W1.cell? ⟨w.heap.size, q, none⟩ = some u := fun q u h => by rw [hW1, World.cell?_alloc_new]; exact h
   have c0 := hcell 0 (.int .i64 8) rfl
   have hlt : w.heap.size < W1.heap.size := World.block_lt_of_cell? _ _ c0
   replace hW1 := Hd hW1
   replace hcell := Hd hcell
   replace hb0 := Hd hb0
   go_enter Tryz.func33, Tryz.ntmps33
   go_wp2_with fail
   rw [<- hW1.out]
   go_wp2_with fail
   refine Al (by kernel_rfl) (by kernel_rfl) ?_
   repeat (go_big_quiet_step ((go_at_call 51; (with_reducible exact At (Ax _)))))
   refine wpQuiet_nil ?_
   rintro _ ⟨xq, rfl⟩
   have hS := An W1 xq
   obtain ⟨W2, hW2⟩ : ∃ W2, W2 = grow W1 xq := ⟨_, rfl⟩
   rw [<- hW2] at hS ⊢
   have g0 := Aa hS _ _ (hcell.out 0 (.int .i64 8) rfl)
   have g1 := Aa hS _ _ (hcell.out 1 (.string t) rfl)
   have g2 := Aa hS _ _ (hcell.out 2 (.int .i64 i) rfl)
   have g3 := Aa hS _ _ (hcell.out 3 (.float .f64 r) rfl)
   have g4 := Aa hS _ _ (hcell.out 4 (.bool true) rfl)
   have g5 := Aa hS _ _ (hcell.out 5 (.slice a n cap) rfl)
   have hb2 : Below w.heap.size w W2 := hb0.out.trans (hS.mono hb0.out.size)
   have hR2 := hR.out.below hb2 (Nat.le_refl _)
   have hL2 := hL.out.below hb2 hB
   have hB2 : B <= W2.heap.size := Nat.le_trans hB hb2.size
   have hbB : Below B w W2 := hb2.mono hB
   have nb2 : NB w W2 := NB.of_below hb2
   have hbox : W2.heap[w.heap.size]? = some (.cells #[.int .i64 8, .string t, .int .i64 i, .float .f64 r, .bool true, .slice a n cap] 26) := by rw [hS.block _ hlt, hW1.out]; exact Ag _ _
   clear c0 hS hlt
   replace nb2 := Hd nb2
   replace hbox := Hd hbox
   replace hW2 := Hd hW2
   replace hR2 := Hd hR2
   replace hL2 := Hd hL2
   replace hbB := Hd hbB
   replace hb2 := Hd hb2
   go_wp2_with fail
   refine (Cz 35 ⟨#[116]⟩ hR2.out hB2 (by omega) (by decide)).mono ?_
   rintro e w3 ⟨b', rfl, hR3, hb3, n3⟩
   rw [<- hwe.out] at hR3
   have hb13 := hbB.out.trans hb3
   have nb3 := nb2.out.trans n3
   replace hR3 := Hd hR3
   replace hb13 := Hd hb13
   replace nb3 := Hd nb3
   clear hb3 n3 g0 g1 g2 g3 g4 g5
   go_wp2_with fail
   go_ret
   exact ⟨_, rfl, hR3.out, hb13.out, nb3.out⟩
 | false =>
   replace hwe := hwe 102 rfl
   replace hwe := Hd hwe
   have hix := Bd 8 (by omega)
   replace hix := Hd hix
   have hix := fun W => hix.out W
   obtain ⟨W1, hW1⟩ : ∃ W1, W1 = w.alloc (.cells #[.int .i64 8, .string t, .int .i64 i, .float .f64 r, .bool false, .slice a n cap] 26) := ⟨_, rfl⟩
   have hb0 : Below w.heap.size w W1 := by rw [hW1]; exact (Below.refl _ _).alloc (Nat.le_refl _) _
   have hcell : ∀ q u, #[.int .i64 8, .string t, .int .i64 i, .float .f64 r, .bool false, .slice a n cap][q]? = some u -> W1.cell? ⟨w.heap.size, q, none⟩ = some u := fun q u h => by rw [hW1, World.cell?_alloc_new]; exact h
   have c0 := hcell 0 (.int .i64 8) rfl
   have hlt : w.heap.size < W1.heap.size := World.block_lt_of_cell? _ _ c0
   replace hW1 := Hd hW1
   replace hcell := Hd hcell
   replace hb0 := Hd hb0
   go_enter Tryz.func33, Tryz.ntmps33
   go_wp2_with fail
   rw [<- hW1.out]
   go_wp2_with fail
   refine Al (by kernel_rfl) (by kernel_rfl) ?_
   repeat (go_big_quiet_step ((go_at_call 51; (with_reducible exact At (Ax _)))))
   refine wpQuiet_nil ?_
   rintro _ ⟨xq, rfl⟩
   have hS := An W1 xq
   obtain ⟨W2, hW2⟩ : ∃ W2, W2 = grow W1 xq := ⟨_, rfl⟩
   rw [<- hW2] at hS ⊢
   have g0 := Aa hS _ _ (hcell.out 0 (.int .i64 8) rfl)
   have g1 := Aa hS _ _ (hcell.out 1 (.string t) rfl)
   have g2 := Aa hS _ _ (hcell.out 2 (.int .i64 i) rfl)
   have g3 := Aa hS _ _ (hcell.out 3 (.float .f64 r) rfl)
   have g4 := Aa hS _ _ (hcell.out 4 (.bool false) rfl)
   have g5 := Aa hS _ _ (hcell.out 5 (.slice a n cap) rfl)
   have hb2 : Below w.heap.size w W2 := hb0.out.trans (hS.mono hb0.out.size)
   have hR2 := hR.out.below hb2 (Nat.le_refl _)
   have hL2 := hL.out.below hb2 hB
   have hB2 : B <= W2.heap.size := Nat.le_trans hB hb2.size
   have hbB : Below B w W2 := hb2.mono hB
   have nb2 : NB w W2 := NB.of_below hb2
   have hbox : W2.heap[w.heap.size]? = some (.cells #[.int .i64 8, .string t, .int .i64 i, .float .f64 r, .bool false, .slice a n cap] 26) := by rw [hS.block _ hlt, hW1.out]; exact Ag _ _
   clear c0 hS hlt
   replace nb2 := Hd nb2
   replace hbox := Hd hbox
   replace hW2 := Hd hW2
   replace hR2 := Hd hR2
   replace hL2 := Hd hL2
   replace hbB := Hd hbB
   replace hb2 := Hd hb2
   go_wp2_with fail
   refine (Cz 35 ⟨#[102]⟩ hR2.out hB2 (by omega) (by decide)).mono ?_
   rintro e w3 ⟨b', rfl, hR3, hb3, n3⟩
   rw [<- hwe.out] at hR3
   have hb13 := hbB.out.trans hb3
   have nb3 := nb2.out.trans n3
   replace hR3 := Hd hR3
   replace hb13 := Hd hb13
   replace nb3 := Hd nb3
   clear hb3 n3 g0 g1 g2 g3 g4 g5
   go_wp2_with fail
   go_ret
   exact ⟨_, rfl, hR3.out, hb13.out, nb3.out⟩
set_option maxRecDepth 100000 in
set_option maxHeartbeats 3200000 in
theorem put_6 {v : V} {t : ByteArray} {i : Int} {r : Nat} {f : Bool} {a : Option Addr} {n cap : Nat} {d : Int} {B : Nat} {w : World} {b : Value} {s : ByteArray} (hp : PutH v 6 t i r f a n cap d B w b s) :
   Calls Tryz.prog 33 #[b, .agg #[.int .i64 6, .string t, .int .i64 i, .float .f64 r, .bool f, .slice a n cap]] w (PutQ v B w s) := by
 obtain ⟨hv, hf, hr, hc, hL, hR, hB, hs⟩ := hp
 obtain ⟨ek, et, ei, er, ef, en⟩ := hv.len
 have hfe := hf
 rw [V.fine_eq, Bool.and_eq_true, Bool.and_eq_true] at hfe
 have ok := Ao hfe.1.1
 have hts := ok.size
 rw [<- et] at hts
 have hra := hr
 rw [V.ranged_eq, <- ei, <- er] at hra
 have hcp := v.count_pos
 have hce0 := v.count_eq
 have hln := V.length_le v.list
 rw [<- en] at hln
 have hn9 : n <= 100000 := by omega
 clear hce0 hln
 replace hL := Hd hL
 replace hR := Hd hR
 replace hv := Hd hv
 replace hf := Hd hf
 replace hr := Hd hr
 replace ok := Hd ok
 replace hfe := Hd hfe
 replace hra := Hd hra
 replace ek := Hd ek
 replace et := Hd et
 replace ei := Hd ei
 replace er := Hd er
 replace ef := Hd ef
 replace en := Hd en
 have hwe : (⟨v.wire.toArray⟩ : ByteArray) = D7 95 (⟨#[]⟩ : ByteArray) := by
   rw [<- Da]
   congr 1
   rw [V.wire_eq, <- ek.out]; (first | rfl | (rw [<- et.out]; rfl))
 replace hwe := Hd hwe
 have hix := Bd 6 (by omega)
 replace hix := Hd hix
 have hix := fun W => hix.out W
 obtain ⟨W1, hW1⟩ : ∃ W1, W1 = w.alloc (.cells #[.int .i64 6, .string t, .int .i64 i, .float .f64 r, .bool f, .slice a n cap] 26) := ⟨_, rfl⟩
 have hb0 : Below w.heap.size w W1 := by rw [hW1]; exact (Below.refl _ _).alloc (Nat.le_refl _) _
 have hcell : ∀ q u, #[.int .i64 6, .string t, .int .i64 i, .float .f64 r, .bool f, .slice a n cap][q]? = some u -> W1.cell? ⟨w.heap.size, q, none⟩ = some u := fun q u h => by rw [hW1, World.cell?_alloc_new]; exact h
 have c0 := hcell 0 (.int .i64 6) rfl
 have hlt : w.heap.size < W1.heap.size := World.block_lt_of_cell? _ _ c0
 replace hW1 := Hd hW1
 replace hcell := Hd hcell
 replace hb0 := Hd hb0
 go_enter Tryz.func33, Tryz.ntmps33
 go_wp2_with fail
 rw [<- hW1.out]
 go_wp2_with fail
 refine Al (by kernel_rfl) (by kernel_rfl) ?_
 repeat (go_big_quiet_step ((go_at_call 51; (with_reducible exact At (Ax _)))))
 refine wpQuiet_nil ?_
 rintro _ ⟨xq, rfl⟩
 have hS := An W1 xq
 obtain ⟨W2, hW2⟩ : ∃ W2, W2 = grow W1 xq := ⟨_, rfl⟩
 rw [<- hW2] at hS ⊢
 have g0 := Aa hS _ _ (hcell.out 0 (.int .i64 6) rfl)
 have g1 := Aa hS _ _ (hcell.out 1 (.string t) rfl)
 have g2 := Aa hS _ _ (hcell.out 2 (.int .i64 i) rfl)
 have g3 := Aa hS _ _ (hcell.out 3 (.float .f64 r) rfl)
 have g4 := Aa hS _ _ (hcell.out 4 (.bool f) rfl)
 have g5 := Aa hS _ _ (hcell.out 5 (.slice a n cap) rfl)
 have hb2 : Below w.heap.size w W2 := hb0.out.trans (hS.mono hb0.out.size)
 have hR2 := hR.out.below hb2 (Nat.le_refl _)
 have hL2 := hL.out.below hb2 hB
 have hB2 : B <= W2.heap.size := Nat.le_trans hB hb2.size
 have hbB : Below B w W2 := hb2.mono hB
 have nb2 : NB w W2 := NB.of_below hb2
 have hbox : W2.heap[w.heap.size]? = some (.cells #[.int .i64 6, .string t, .int .i64 i, .float .f64 r, .bool f, .slice a n cap] 26) := by rw [hS.block _ hlt, hW1.out]; exact Ag _ _
 clear c0 hS hlt
 replace nb2 := Hd nb2
 replace hbox := Hd hbox
 replace hW2 := Hd hW2
 replace hR2 := Hd hR2
 replace hL2 := Hd hL2
 replace hbB := Hd hbB
 replace hb2 := Hd hb2
 go_wp2_with fail
 refine (Cz 95 (⟨#[]⟩ : ByteArray) hR2.out hB2 (by omega) (by decide)).mono ?_
 rintro e w3 ⟨b', rfl, hR3, hb3, n3⟩
 rw [<- hwe.out] at hR3
 have hb13 := hbB.out.trans hb3
 have nb3 := nb2.out.trans n3
 replace hR3 := Hd hR3
 replace hb13 := Hd hb13
 replace nb3 := Hd nb3
 clear hb3 n3 g0 g1 g2 g3 g4 g5
 go_wp2_with fail
 go_ret
 exact ⟨_, rfl, hR3.out, hb13.out, nb3.out⟩
set_option maxRecDepth 100000 in
set_option maxHeartbeats 3200000 in
theorem put_4 {v : V} {t : ByteArray} {i : Int} {r : Nat} {f : Bool} {a : Option Addr} {n cap : Nat} {d : Int} {B : Nat} {w : World} {b : Value} {s : ByteArray} (hp : PutH v 4 t i r f a n cap d B w b s) :
   Calls Tryz.prog 33 #[b, .agg #[.int .i64 4, .string t, .int .i64 i, .float .f64 r, .bool f, .slice a n cap]] w (PutQ v B w s) := by
 obtain ⟨hv, hf, hr, hc, hL, hR, hB, hs⟩ := hp
 obtain ⟨ek, et, ei, er, ef, en⟩ := hv.len
 have hfe := hf
 rw [V.fine_eq, Bool.and_eq_true, Bool.and_eq_true] at hfe
 have ok := Ao hfe.1.1
 have hts := ok.size
 rw [<- et] at hts
 have hra := hr
 rw [V.ranged_eq, <- ei, <- er] at hra
 have hcp := v.count_pos
 have hce0 := v.count_eq
 have hln := V.length_le v.list
 rw [<- en] at hln
 have hn9 : n <= 100000 := by omega
 clear hce0 hln
 replace hL := Hd hL
 replace hR := Hd hR
 replace hv := Hd hv
 replace hf := Hd hf
 replace hr := Hd hr
 replace ok := Hd ok
 replace hfe := Hd hfe
 replace hra := Hd hra
 replace ek := Hd ek
 replace et := Hd et
 replace ei := Hd ei
 replace er := Hd er
 replace ef := Hd ef
 replace en := Hd en
 have hwe : (⟨v.wire.toArray⟩ : ByteArray) = Cx 36 t := by
   rw [<- Et]
   congr 1
   rw [V.wire_eq, <- ek.out, <- et.out]; rfl
 replace hwe := Hd hwe
 have hix := Bd 4 (by omega)
 replace hix := Hd hix
 have hix := fun W => hix.out W
 obtain ⟨W1, hW1⟩ : ∃ W1, W1 = w.alloc (.cells #[.int .i64 4, .string t, .int .i64 i, .float .f64 r, .bool f, .slice a n cap] 26) := ⟨_, rfl⟩
 have hb0 : Below w.heap.size w W1 := by rw [hW1]; exact (Below.refl _ _).alloc (Nat.le_refl _) _
 have hcell : ∀ q u, #[.int .i64 4, .string t, .int .i64 i, .float .f64 r, .bool f, .slice a n cap][q]? = some u -> W1.cell? ⟨w.heap.size, q, none⟩ = some u := fun q u h => by rw [hW1, World.cell?_alloc_new]; exact h
 have c0 := hcell 0 (.int .i64 4) rfl
 have hlt : w.heap.size < W1.heap.size := World.block_lt_of_cell? _ _ c0
 replace hW1 := Hd hW1
 replace hcell := Hd hcell
 replace hb0 := Hd hb0
 go_enter Tryz.func33, Tryz.ntmps33
 go_wp2_with fail
 rw [<- hW1.out]
 go_wp2_with fail
 refine Al (by kernel_rfl) (by kernel_rfl) ?_
 repeat (go_big_quiet_step ((go_at_call 51; (with_reducible exact At (Ax _)))))
 refine wpQuiet_nil ?_
 rintro _ ⟨xq, rfl⟩
 have hS := An W1 xq
 obtain ⟨W2, hW2⟩ : ∃ W2, W2 = grow W1 xq := ⟨_, rfl⟩
 rw [<- hW2] at hS ⊢
 have g0 := Aa hS _ _ (hcell.out 0 (.int .i64 4) rfl)
 have g1 := Aa hS _ _ (hcell.out 1 (.string t) rfl)
 have g2 := Aa hS _ _ (hcell.out 2 (.int .i64 i) rfl)
 have g3 := Aa hS _ _ (hcell.out 3 (.float .f64 r) rfl)
 have g4 := Aa hS _ _ (hcell.out 4 (.bool f) rfl)
 have g5 := Aa hS _ _ (hcell.out 5 (.slice a n cap) rfl)
 have hb2 : Below w.heap.size w W2 := hb0.out.trans (hS.mono hb0.out.size)
 have hR2 := hR.out.below hb2 (Nat.le_refl _)
 have hL2 := hL.out.below hb2 hB
 have hB2 : B <= W2.heap.size := Nat.le_trans hB hb2.size
 have hbB : Below B w W2 := hb2.mono hB
 have nb2 : NB w W2 := NB.of_below hb2
 have hbox : W2.heap[w.heap.size]? = some (.cells #[.int .i64 4, .string t, .int .i64 i, .float .f64 r, .bool f, .slice a n cap] 26) := by rw [hS.block _ hlt, hW1.out]; exact Ag _ _
 clear c0 hS hlt
 replace nb2 := Hd nb2
 replace hbox := Hd hbox
 replace hW2 := Hd hW2
 replace hR2 := Hd hR2
 replace hL2 := Hd hL2
 replace hbB := Hd hbB
 replace hb2 := Hd hb2
 go_wp2_with fail
 refine (Ey 36 t hL2.out.nums hR2.out hB2 (by omega) (by omega)).mono ?_
 rintro e w3 ⟨b', rfl, hR3, hb3, n3⟩
 rw [<- hwe.out] at hR3
 have hb13 := hbB.out.trans hb3
 have nb3 := nb2.out.trans n3
 replace hR3 := Hd hR3
 replace hb13 := Hd hb13
 replace nb3 := Hd nb3
 clear hb3 n3 g0 g1 g2 g3 g4 g5
 go_wp2_with fail
 go_ret
 exact ⟨_, rfl, hR3.out, hb13.out, nb3.out⟩
set_option maxRecDepth 100000 in
set_option maxHeartbeats 3200000 in
theorem put_10 {v : V} {t : ByteArray} {i : Int} {r : Nat} {f : Bool} {a : Option Addr} {n cap : Nat} {d : Int} {B : Nat} {w : World} {b : Value} {s : ByteArray} (hp : PutH v 10 t i r f a n cap d B w b s) :
   Calls Tryz.prog 33 #[b, .agg #[.int .i64 10, .string t, .int .i64 i, .float .f64 r, .bool f, .slice a n cap]] w (PutQ v B w s) := by
 obtain ⟨hv, hf, hr, hc, hL, hR, hB, hs⟩ := hp
 obtain ⟨ek, et, ei, er, ef, en⟩ := hv.len
 have hfe := hf
 rw [V.fine_eq, Bool.and_eq_true, Bool.and_eq_true] at hfe
 have ok := Ao hfe.1.1
 have hts := ok.size
 rw [<- et] at hts
 have hra := hr
 rw [V.ranged_eq, <- ei, <- er] at hra
 have hcp := v.count_pos
 have hce0 := v.count_eq
 have hln := V.length_le v.list
 rw [<- en] at hln
 have hn9 : n <= 100000 := by omega
 clear hce0 hln
 replace hL := Hd hL
 replace hR := Hd hR
 replace hv := Hd hv
 replace hf := Hd hf
 replace hr := Hd hr
 replace ok := Hd ok
 replace hfe := Hd hfe
 replace hra := Hd hra
 replace ek := Hd ek
 replace et := Hd et
 replace ei := Hd ei
 replace er := Hd er
 replace ef := Hd ef
 replace en := Hd en
 have hwe : (⟨v.wire.toArray⟩ : ByteArray) = Cx 33 t := by
   rw [<- Et]
   congr 1
   rw [V.wire_eq, <- ek.out, <- et.out]; rfl
 replace hwe := Hd hwe
 have hix := Bd 10 (by omega)
 replace hix := Hd hix
 have hix := fun W => hix.out W
 obtain ⟨W1, hW1⟩ : ∃ W1, W1 = w.alloc (.cells #[.int .i64 10, .string t, .int .i64 i, .float .f64 r, .bool f, .slice a n cap] 26) := ⟨_, rfl⟩
 have hb0 : Below w.heap.size w W1 := by rw [hW1]; exact (Below.refl _ _).alloc (Nat.le_refl _) _
 have hcell : ∀ q u, #[.int .i64 10, .string t, .int .i64 i, .float .f64 r, .bool f, .slice a n cap][q]? = some u -> W1.cell? ⟨w.heap.size, q, none⟩ = some u := fun q u h => by rw [hW1, World.cell?_alloc_new]; exact h
 have c0 := hcell 0 (.int .i64 10) rfl
 have hlt : w.heap.size < W1.heap.size := World.block_lt_of_cell? _ _ c0
 replace hW1 := Hd hW1
 replace hcell := Hd hcell
 replace hb0 := Hd hb0
 go_enter Tryz.func33, Tryz.ntmps33
 go_wp2_with fail
 rw [<- hW1.out]
 go_wp2_with fail
 refine Al (by kernel_rfl) (by kernel_rfl) ?_
 repeat (go_big_quiet_step ((go_at_call 51; (with_reducible exact At (Ax _)))))
 refine wpQuiet_nil ?_
 rintro _ ⟨xq, rfl⟩
 have hS := An W1 xq
 obtain ⟨W2, hW2⟩ : ∃ W2, W2 = grow W1 xq := ⟨_, rfl⟩
 rw [<- hW2] at hS ⊢
 have g0 := Aa hS _ _ (hcell.out 0 (.int .i64 10) rfl)
 have g1 := Aa hS _ _ (hcell.out 1 (.string t) rfl)
 have g2 := Aa hS _ _ (hcell.out 2 (.int .i64 i) rfl)
 have g3 := Aa hS _ _ (hcell.out 3 (.float .f64 r) rfl)
 have g4 := Aa hS _ _ (hcell.out 4 (.bool f) rfl)
 have g5 := Aa hS _ _ (hcell.out 5 (.slice a n cap) rfl)
 have hb2 : Below w.heap.size w W2 := hb0.out.trans (hS.mono hb0.out.size)
 have hR2 := hR.out.below hb2 (Nat.le_refl _)
 have hL2 := hL.out.below hb2 hB
 have hB2 : B <= W2.heap.size := Nat.le_trans hB hb2.size
 have hbB : Below B w W2 := hb2.mono hB
 have nb2 : NB w W2 := NB.of_below hb2
 have hbox : W2.heap[w.heap.size]? = some (.cells #[.int .i64 10, .string t, .int .i64 i, .float .f64 r, .bool f, .slice a n cap] 26) := by rw [hS.block _ hlt, hW1.out]; exact Ag _ _
 clear c0 hS hlt
 replace nb2 := Hd nb2
 replace hbox := Hd hbox
 replace hW2 := Hd hW2
 replace hR2 := Hd hR2
 replace hL2 := Hd hL2
 replace hbB := Hd hbB
 replace hb2 := Hd hb2
 go_wp2_with fail
 refine (Ey 33 t hL2.out.nums hR2.out hB2 (by omega) (by omega)).mono ?_
 rintro e w3 ⟨b', rfl, hR3, hb3, n3⟩
 rw [<- hwe.out] at hR3
 have hb13 := hbB.out.trans hb3
 have nb3 := nb2.out.trans n3
 replace hR3 := Hd hR3
 replace hb13 := Hd hb13
 replace nb3 := Hd nb3
 clear hb3 n3 g0 g1 g2 g3 g4 g5
 go_wp2_with fail
 go_ret
 exact ⟨_, rfl, hR3.out, hb13.out, nb3.out⟩
set_option maxRecDepth 100000 in
set_option maxHeartbeats 3200000 in
theorem put_11 {v : V} {t : ByteArray} {i : Int} {r : Nat} {f : Bool} {a : Option Addr} {n cap : Nat} {d : Int} {B : Nat} {w : World} {b : Value} {s : ByteArray} (hp : PutH v 11 t i r f a n cap d B w b s) :
   Calls Tryz.prog 33 #[b, .agg #[.int .i64 11, .string t, .int .i64 i, .float .f64 r, .bool f, .slice a n cap]] w (PutQ v B w s) := by
 obtain ⟨hv, hf, hr, hc, hL, hR, hB, hs⟩ := hp
 obtain ⟨ek, et, ei, er, ef, en⟩ := hv.len
 have hfe := hf
 rw [V.fine_eq, Bool.and_eq_true, Bool.and_eq_true] at hfe
 have ok := Ao hfe.1.1
 have hts := ok.size
 rw [<- et] at hts
 have hra := hr
 rw [V.ranged_eq, <- ei, <- er] at hra
 have hcp := v.count_pos
 have hce0 := v.count_eq
 have hln := V.length_le v.list
 rw [<- en] at hln
 have hn9 : n <= 100000 := by omega
 clear hce0 hln
 replace hL := Hd hL
 replace hR := Hd hR
 replace hv := Hd hv
 replace hf := Hd hf
 replace hr := Hd hr
 replace ok := Hd ok
 replace hfe := Hd hfe
 replace hra := Hd hra
 replace ek := Hd ek
 replace et := Hd et
 replace ei := Hd ei
 replace er := Hd er
 replace ef := Hd ef
 replace en := Hd en
 have hwe : (⟨v.wire.toArray⟩ : ByteArray) = Cx 61 t := by
   rw [<- Et]
   congr 1
   rw [V.wire_eq, <- ek.out, <- et.out]; rfl
 replace hwe := Hd hwe
 have hix := Bd 11 (by omega)
 replace hix := Hd hix
 have hix := fun W => hix.out W
 obtain ⟨W1, hW1⟩ : ∃ W1, W1 = w.alloc (.cells #[.int .i64 11, .string t, .int .i64 i, .float .f64 r, .bool f, .slice a n cap] 26) := ⟨_, rfl⟩
 have hb0 : Below w.heap.size w W1 := by rw [hW1]; exact (Below.refl _ _).alloc (Nat.le_refl _) _
 have hcell : ∀ q u, #[.int .i64 11, .string t, .int .i64 i, .float .f64 r, .bool f, .slice a n cap][q]? = some u -> W1.cell? ⟨w.heap.size, q, none⟩ = some u := fun q u h => by rw [hW1, World.cell?_alloc_new]; exact h
 have c0 := hcell 0 (.int .i64 11) rfl
 have hlt : w.heap.size < W1.heap.size := World.block_lt_of_cell? _ _ c0
 replace hW1 := Hd hW1
 replace hcell := Hd hcell
 replace hb0 := Hd hb0
 go_enter Tryz.func33, Tryz.ntmps33
 go_wp2_with fail
 rw [<- hW1.out]
 go_wp2_with fail
 refine Al (by kernel_rfl) (by kernel_rfl) ?_
 repeat (go_big_quiet_step ((go_at_call 51; (with_reducible exact At (Ax _)))))
 refine wpQuiet_nil ?_
 rintro _ ⟨xq, rfl⟩
 have hS := An W1 xq
 obtain ⟨W2, hW2⟩ : ∃ W2, W2 = grow W1 xq := ⟨_, rfl⟩
 rw [<- hW2] at hS ⊢
 have g0 := Aa hS _ _ (hcell.out 0 (.int .i64 11) rfl)
 have g1 := Aa hS _ _ (hcell.out 1 (.string t) rfl)
 have g2 := Aa hS _ _ (hcell.out 2 (.int .i64 i) rfl)
 have g3 := Aa hS _ _ (hcell.out 3 (.float .f64 r) rfl)
 have g4 := Aa hS _ _ (hcell.out 4 (.bool f) rfl)
 have g5 := Aa hS _ _ (hcell.out 5 (.slice a n cap) rfl)
 have hb2 : Below w.heap.size w W2 := hb0.out.trans (hS.mono hb0.out.size)
 have hR2 := hR.out.below hb2 (Nat.le_refl _)
 have hL2 := hL.out.below hb2 hB
 have hB2 : B <= W2.heap.size := Nat.le_trans hB hb2.size
 have hbB : Below B w W2 := hb2.mono hB
 have nb2 : NB w W2 := NB.of_below hb2
 have hbox : W2.heap[w.heap.size]? = some (.cells #[.int .i64 11, .string t, .int .i64 i, .float .f64 r, .bool f, .slice a n cap] 26) := by rw [hS.block _ hlt, hW1.out]; exact Ag _ _
 clear c0 hS hlt
 replace nb2 := Hd nb2
 replace hbox := Hd hbox
 replace hW2 := Hd hW2
 replace hR2 := Hd hR2
 replace hL2 := Hd hL2
 replace hbB := Hd hbB
 replace hb2 := Hd hb2
 go_wp2_with fail
 refine (Ey 61 t hL2.out.nums hR2.out hB2 (by omega) (by omega)).mono ?_
 rintro e w3 ⟨b', rfl, hR3, hb3, n3⟩
 rw [<- hwe.out] at hR3
 have hb13 := hbB.out.trans hb3
 have nb3 := nb2.out.trans n3
 replace hR3 := Hd hR3
 replace hb13 := Hd hb13
 replace nb3 := Hd nb3
 clear hb3 n3 g0 g1 g2 g3 g4 g5
 go_wp2_with fail
 go_ret
 exact ⟨_, rfl, hR3.out, hb13.out, nb3.out⟩
set_option maxRecDepth 100000 in
set_option maxHeartbeats 6400000 in
theorem put_12 {v : V} (ih : ∀ x ∈ v.list, ∀ (k : Int) (t : ByteArray) (i : Int) (r : Nat) (f : Bool) (a : Option Addr) (n cap : Nat) (d : Int) (B : Nat) (w : World) (b : Value) (s : ByteArray), PutH x k t i r f a n cap d B w b s ->
      Calls Tryz.prog 33 #[b, .agg #[.int .i64 k, .string t, .int .i64 i, .float .f64 r, .bool f, .slice a n cap]] w (PutQ x B w s))
   {t : ByteArray} {i : Int} {r : Nat} {f : Bool} {a : Option Addr} {n cap : Nat} {d : Int} {B : Nat} {w : World} {b : Value} {s : ByteArray} (hp : PutH v 12 t i r f a n cap d B w b s) :
   Calls Tryz.prog 33 #[b, .agg #[.int .i64 12, .string t, .int .i64 i, .float .f64 r, .bool f, .slice a n cap]] w (PutQ v B w s) := by
 replace ih := Hd ih
 obtain ⟨hv, hf, hr, hc, hL, hR, hB, hs⟩ := hp
 obtain ⟨ek, et, ei, er, ef, en⟩ := hv.len
 have hfe := hf
 rw [V.fine_eq, Bool.and_eq_true, Bool.and_eq_true] at hfe
 have ok := Ao hfe.1.1
 have hts := ok.size
 rw [<- et] at hts
 have hra := hr
 rw [V.ranged_eq, <- ei, <- er] at hra
 have hcp := v.count_pos
 have hce0 := v.count_eq
 have hln := V.length_le v.list
 rw [<- en] at hln
 have hn9 : n <= 100000 := by omega
 clear hce0 hln
 replace hL := Hd hL
 replace hR := Hd hR
 replace hv := Hd hv
 replace hf := Hd hf
 replace hr := Hd hr
 replace ok := Hd ok
 replace hfe := Hd hfe
 replace hra := Hd hra
 replace ek := Hd ek
 replace et := Hd et
 replace ei := Hd ei
 replace er := Hd er
 replace ef := Hd ef
 replace en := Hd en
 have hq : ((n : Int)).tdiv 2 = ((n / 2 : Nat) : Int) := by rw [Int.tdiv_eq_ediv_of_nonneg (by omega)]; omega
 have hwe : (⟨v.wire.toArray⟩ : ByteArray) = numB 37 ((n / 2 : Nat) : Int) ++ ⟨(V.wireL v.list).toArray⟩ := by
   rw [<- Cq, <- B3]
   congr 1
   rw [V.wire_eq, <- ek.out, <- en.out]; rfl
 replace hwe := Hd hwe
 have hix := Bd 12 (by omega)
 replace hix := Hd hix
 have hix := fun W => hix.out W
 obtain ⟨W1, hW1⟩ : ∃ W1, W1 = w.alloc (.cells #[.int .i64 12, .string t, .int .i64 i, .float .f64 r, .bool f, .slice a n cap] 26) := ⟨_, rfl⟩
 have hb0 : Below w.heap.size w W1 := by rw [hW1]; exact (Below.refl _ _).alloc (Nat.le_refl _) _
 have hcell : ∀ q u, #[.int .i64 12, .string t, .int .i64 i, .float .f64 r, .bool f, .slice a n cap][q]? = some u -> W1.cell? ⟨w.heap.size, q, none⟩ = some u := fun q u h => by rw [hW1, World.cell?_alloc_new]; exact h
 have c0 := hcell 0 (.int .i64 12) rfl
 have hlt : w.heap.size < W1.heap.size := World.block_lt_of_cell? _ _ c0
 replace hW1 := Hd hW1
 replace hcell := Hd hcell
 replace hb0 := Hd hb0
 go_enter Tryz.func33, Tryz.ntmps33
 go_wp2_with fail
 rw [<- hW1.out]
 go_wp2_with fail
 refine Al (by kernel_rfl) (by kernel_rfl) ?_
 repeat (go_big_quiet_step ((go_at_call 51; (with_reducible exact At (Ax _)))))
 refine wpQuiet_nil ?_
 rintro _ ⟨xq, rfl⟩
 have hS := An W1 xq
 obtain ⟨W2, hW2⟩ : ∃ W2, W2 = grow W1 xq := ⟨_, rfl⟩
 rw [<- hW2] at hS ⊢
 have g0 := Aa hS _ _ (hcell.out 0 (.int .i64 12) rfl)
 have g1 := Aa hS _ _ (hcell.out 1 (.string t) rfl)
 have g2 := Aa hS _ _ (hcell.out 2 (.int .i64 i) rfl)
 have g3 := Aa hS _ _ (hcell.out 3 (.float .f64 r) rfl)
 have g4 := Aa hS _ _ (hcell.out 4 (.bool f) rfl)
 have g5 := Aa hS _ _ (hcell.out 5 (.slice a n cap) rfl)
 have hb2 : Below w.heap.size w W2 := hb0.out.trans (hS.mono hb0.out.size)
 have hR2 := hR.out.below hb2 (Nat.le_refl _)
 have hL2 := hL.out.below hb2 hB
 have hB2 : B <= W2.heap.size := Nat.le_trans hB hb2.size
 have hbB : Below B w W2 := hb2.mono hB
 have nb2 : NB w W2 := NB.of_below hb2
 have hbox : W2.heap[w.heap.size]? = some (.cells #[.int .i64 12, .string t, .int .i64 i, .float .f64 r, .bool f, .slice a n cap] 26) := by rw [hS.block _ hlt, hW1.out]; exact Ag _ _
 clear c0 hS hlt
 replace nb2 := Hd nb2
 replace hbox := Hd hbox
 replace hW2 := Hd hW2
 replace hR2 := Hd hR2
 replace hL2 := Hd hL2
 replace hbB := Hd hbB
 replace hb2 := Hd hb2
 go_wp2_with fail
 refine (Bi 37 ((n / 2 : Nat) : Int) (by omega) (by omega) hL2.out.nums hR2.out hB2 (by omega)).mono ?_
 rintro e w3 ⟨b3, rfl, hR3, hb3, n3⟩
 have hz3 := Bf 37 ((n / 2 : Nat) : Int) (by omega) (by omega)
 have hb03 := hbB.out.trans hb3
 have nb3 := nb2.out.trans n3
 have f5 : w3.cell? ⟨w.heap.size, 5, none⟩ = some (.slice a n cap) := by rw [n3.cell hbox.out (by decide)]; exact g5
 have hB3 : B <= w3.heap.size := Nat.le_trans hB2 hb3.size
 generalize numB 37 ((n / 2 : Nat) : Int) = T at *
 clear g0 g1 g2 g3 g4 g5 hb3 n3
 replace hR3 := Hd hR3
 replace hb03 := Hd hb03
 replace nb3 := Hd nb3
 go_wp2_with fail
 go_loopw [0, 87] (fun s0 s87 wr => ∃ j : Nat, j <= n /\ s87 = .int .i64 j /\ Row B wr s0 (s ++ T ++ ⟨(V.wireL (v.list.take j)).toArray⟩) /\ Below B w wr /\ NB w wr) (fun _ s87 _ => n - (intOf s87).toNat)
 case atStart => exact ⟨0, Nat.zero_le _, rfl, by rw [List.take_zero, V.wireL]; rw [show (⟨([] : List UInt8).toArray⟩ : ByteArray) = ⟨#[]⟩ from rfl, Aq]; exact hR3.out, hb03.out, nb3.out⟩
 case round =>
   obtain ⟨j, hj, rfl, hRj, hbj, nbj⟩ := hrel
   clear hR3 hb03 nb3 f5
   have hBj : B <= wr.heap.size := by have := hbj.size; omega
   by_cases hlt : j < n
   · have hlti : (j : Int) < (n : Int) := by omega
     have hvw := hv.out.mono (Ak hbj)
     rw [show Ad 12 t i r f a n cap = Ad v.kind v.text v.int v.real v.flag a n cap by rw [<- ek.out, <- et.out, <- ei.out, <- er.out, <- ef.out]] at hvw
     obtain ⟨x, bb, o, a', cap', hxj, hmem, rfl, hx, d0, d1, d2, d3, d4, d5⟩ := hvw.elem' hlt
     replace d0 := Aj _ _ d0
     replace d1 := Aj _ _ d1
     replace d2 := Aj _ _ d2
     replace d3 := Aj _ _ d3
     replace d4 := Aj _ _ d4
     replace d5 := Aj _ _ d5
     have hts : v.list.take (j + 1) = v.list.take j ++ [x] := by
       obtain ⟨h1, h2⟩ := List.getElem?_eq_some_iff.1 hxj
       rw [List.take_succ_eq_append_getElem h1, h2]
     have hal : Below B wr (wr.alloc (.cells #[.int .i64 x.kind, .string x.text, .int .i64 x.int, .float .f64 x.real, .bool x.flag, .slice a' x.list.length cap'] 26)) := (Below.refl B wr).alloc hBj _
     have hal2 : Below wr.heap.size wr (wr.alloc (.cells #[.int .i64 x.kind, .string x.text, .int .i64 x.int, .float .f64 x.real, .bool x.flag, .slice a' x.list.length cap'] 26)) := (Below.refl _ wr).alloc (Nat.le_refl _) _
     have hxf := Bb hfe.out.2 x hmem
     have hxr := V.rangedL_mem hra.out.2.2.2 x hmem
     have hce := v.count_eq
     have hcx : V.countL (v.list.take j) + x.count <= V.countL v.list := by
       have h1 := V.countL_take v.list (j + 1)
       rw [hts, V.countL_append] at h1
       simp only [V.countL] at h1
       omega
     have hwl := D2 (v.list.take j) (d - 1) (V.fineL_take hfe.out.2 j) (Bn fun z hz => V.rangedL_mem hra.out.2.2.2 z (List.mem_of_mem_take hz)) (by omega)
     have hsz : (s ++ T ++ ⟨(V.wireL (v.list.take j)).toArray⟩).size + 5000 * x.count <= 1000000000000 := by
       rw [ByteArray.size_append, ByteArray.size_append]
       have e : (⟨(V.wireL (v.list.take j)).toArray⟩ : ByteArray).size = (V.wireL (v.list.take j)).length := Cy _
       omega
     have hput := ih.out x hmem x.kind x.text x.int x.real x.flag a' x.list.length cap' (d - 1) B _ u0 _ ⟨hx.mono (Ak hal), hxf, hxr, by omega, (hL.out.below hbj (Nat.le_refl _)).below hal (Nat.le_refl _), hRj.below hal2 (Nat.le_refl _), Nat.le_trans hBj hal.size, hsz⟩
     have nbal := nbj.trans (NB.of_below hal2)
     have hbal := hbj.trans hal
     replace hput := Hd hput
     replace hts := Hd hts
     replace hal := Hd hal
     replace hbal := Hd hbal
     replace nbal := Hd nbal
     clear hvw hx hxj hmem hxf hxr hce hcx hwl hsz hal2 hRj hbj nbj
     go_wp2_with fail
     refine hput.out.mono ?_
     rintro e w5 ⟨b5, rfl, hR5, hb5, n5⟩
     have hb6 := hbal.out.trans hb5
     have nb6 := nbal.out.trans n5
     clear hb5 n5 d0 d1 d2 d3 d4 d5
     replace hR5 := Hd hR5
     replace hb6 := Hd hb6
     replace nb6 := Hd nb6
     go_wp2_with fail
     go_roundw
     case rel =>
       refine ⟨j + 1, by omega, by go_num, ?_, hb6.out, nb6.out⟩
       rw [hts.out, V.wireL_snoc, B3, <- ByteArray.append_assoc]
       exact hR5.out
     case measure => simp [intOf]; omega
   · have hlti : ¬ (j : Int) < (n : Int) := by omega
     have hj9 : v.list.take j = v.list := List.take_of_length_le (by have := en.out; omega)
     rw [hj9, ByteArray.append_assoc, <- hwe.out] at hRj
     replace hRj := Hd hRj
     replace hbj := Hd hbj
     replace nbj := Hd nbj
     go_wp2_with fail
     go_ret
     exact ⟨_, rfl, hRj.out, hbj.out, nbj.out⟩
set_option maxRecDepth 100000 in
set_option maxHeartbeats 6400000 in
theorem put_5 {v : V} (ih : ∀ x ∈ v.list, ∀ (k : Int) (t : ByteArray) (i : Int) (r : Nat) (f : Bool) (a : Option Addr) (n cap : Nat) (d : Int) (B : Nat) (w : World) (b : Value) (s : ByteArray), PutH x k t i r f a n cap d B w b s ->
      Calls Tryz.prog 33 #[b, .agg #[.int .i64 k, .string t, .int .i64 i, .float .f64 r, .bool f, .slice a n cap]] w (PutQ x B w s))
   {t : ByteArray} {i : Int} {r : Nat} {f : Bool} {a : Option Addr} {n cap : Nat} {d : Int} {B : Nat} {w : World} {b : Value} {s : ByteArray} (hp : PutH v 5 t i r f a n cap d B w b s) :
   Calls Tryz.prog 33 #[b, .agg #[.int .i64 5, .string t, .int .i64 i, .float .f64 r, .bool f, .slice a n cap]] w (PutQ v B w s) := by
 replace ih := Hd ih
 obtain ⟨hv, hf, hr, hc, hL, hR, hB, hs⟩ := hp
 obtain ⟨ek, et, ei, er, ef, en⟩ := hv.len
 have hfe := hf
 rw [V.fine_eq, Bool.and_eq_true, Bool.and_eq_true] at hfe
 have ok := Ao hfe.1.1
 have hts := ok.size
 rw [<- et] at hts
 have hra := hr
 rw [V.ranged_eq, <- ei, <- er] at hra
 have hcp := v.count_pos
 have hce0 := v.count_eq
 have hln := V.length_le v.list
 rw [<- en] at hln
 have hn9 : n <= 100000 := by omega
 clear hce0 hln
 replace hL := Hd hL
 replace hR := Hd hR
 replace hv := Hd hv
 replace hf := Hd hf
 replace hr := Hd hr
 replace ok := Hd ok
 replace hfe := Hd hfe
 replace hra := Hd hra
 replace ek := Hd ek
 replace et := Hd et
 replace ei := Hd ei
 replace er := Hd er
 replace ef := Hd ef
 replace en := Hd en
 have hwe : (⟨v.wire.toArray⟩ : ByteArray) = numB 42 ((n : Nat) : Int) ++ ⟨(V.wireL v.list).toArray⟩ := by
   rw [<- Cq, <- B3]
   congr 1
   rw [V.wire_eq, <- ek.out, <- en.out]; rfl
 replace hwe := Hd hwe
 have hix := Bd 5 (by omega)
 replace hix := Hd hix
 have hix := fun W => hix.out W
 obtain ⟨W1, hW1⟩ : ∃ W1, W1 = w.alloc (.cells #[.int .i64 5, .string t, .int .i64 i, .float .f64 r, .bool f, .slice a n cap] 26) := ⟨_, rfl⟩
 have hb0 : Below w.heap.size w W1 := by rw [hW1]; exact (Below.refl _ _).alloc (Nat.le_refl _) _
 have hcell : ∀ q u, #[.int .i64 5, .string t, .int .i64 i, .float .f64 r, .bool f, .slice a n cap][q]? = some u -> W1.cell? ⟨w.heap.size, q, none⟩ = some u := fun q u h => by rw [hW1, World.cell?_alloc_new]; exact h
 have c0 := hcell 0 (.int .i64 5) rfl
 have hlt : w.heap.size < W1.heap.size := World.block_lt_of_cell? _ _ c0
 replace hW1 := Hd hW1
 replace hcell := Hd hcell
 replace hb0 := Hd hb0
 go_enter Tryz.func33, Tryz.ntmps33
 go_wp2_with fail
 rw [<- hW1.out]
 go_wp2_with fail
 refine Al (by kernel_rfl) (by kernel_rfl) ?_
 repeat (go_big_quiet_step ((go_at_call 51; (with_reducible exact At (Ax _)))))
 refine wpQuiet_nil ?_
 rintro _ ⟨xq, rfl⟩
 have hS := An W1 xq
 obtain ⟨W2, hW2⟩ : ∃ W2, W2 = grow W1 xq := ⟨_, rfl⟩
 rw [<- hW2] at hS ⊢
 have g0 := Aa hS _ _ (hcell.out 0 (.int .i64 5) rfl)
 have g1 := Aa hS _ _ (hcell.out 1 (.string t) rfl)
 have g2 := Aa hS _ _ (hcell.out 2 (.int .i64 i) rfl)
 have g3 := Aa hS _ _ (hcell.out 3 (.float .f64 r) rfl)
 have g4 := Aa hS _ _ (hcell.out 4 (.bool f) rfl)
 have g5 := Aa hS _ _ (hcell.out 5 (.slice a n cap) rfl)
 have hb2 : Below w.heap.size w W2 := hb0.out.trans (hS.mono hb0.out.size)
 have hR2 := hR.out.below hb2 (Nat.le_refl _)
 have hL2 := hL.out.below hb2 hB
 have hB2 : B <= W2.heap.size := Nat.le_trans hB hb2.size
 have hbB : Below B w W2 := hb2.mono hB
 have nb2 : NB w W2 := NB.of_below hb2
 have hbox : W2.heap[w.heap.size]? = some (.cells #[.int .i64 5, .string t, .int .i64 i, .float .f64 r, .bool f, .slice a n cap] 26) := by rw [hS.block _ hlt, hW1.out]; exact Ag _ _
 clear c0 hS hlt
 replace nb2 := Hd nb2
 replace hbox := Hd hbox
 replace hW2 := Hd hW2
 replace hR2 := Hd hR2
 replace hL2 := Hd hL2
 replace hbB := Hd hbB
 replace hb2 := Hd hb2
 go_wp2_with fail
 refine (Bi 42 ((n : Nat) : Int) (by omega) (by omega) hL2.out.nums hR2.out hB2 (by omega)).mono ?_
 rintro e w3 ⟨b3, rfl, hR3, hb3, n3⟩
 have hz3 := Bf 42 ((n : Nat) : Int) (by omega) (by omega)
 have hb03 := hbB.out.trans hb3
 have nb3 := nb2.out.trans n3
 have f5 : w3.cell? ⟨w.heap.size, 5, none⟩ = some (.slice a n cap) := by rw [n3.cell hbox.out (by decide)]; exact g5
 have hB3 : B <= w3.heap.size := Nat.le_trans hB2 hb3.size
 generalize numB 42 ((n : Nat) : Int) = T at *
 clear g0 g1 g2 g3 g4 g5 hb3 n3
 replace hR3 := Hd hR3
 replace hb03 := Hd hb03
 replace nb3 := Hd nb3
 go_wp2_with fail
 go_loopw [0, 87] (fun s0 s87 wr => ∃ j : Nat, j <= n /\ s87 = .int .i64 j /\ Row B wr s0 (s ++ T ++ ⟨(V.wireL (v.list.take j)).toArray⟩) /\ Below B w wr /\ NB w wr) (fun _ s87 _ => n - (intOf s87).toNat)
 case atStart => exact ⟨0, Nat.zero_le _, rfl, by rw [List.take_zero, V.wireL]; rw [show (⟨([] : List UInt8).toArray⟩ : ByteArray) = ⟨#[]⟩ from rfl, Aq]; exact hR3.out, hb03.out, nb3.out⟩
 case round =>
   obtain ⟨j, hj, rfl, hRj, hbj, nbj⟩ := hrel
   clear hR3 hb03 nb3 f5
   have hBj : B <= wr.heap.size := by have := hbj.size; omega
   by_cases hlt : j < n
   · have hlti : (j : Int) < (n : Int) := by omega
     have hvw := hv.out.mono (Ak hbj)
     rw [show Ad 5 t i r f a n cap = Ad v.kind v.text v.int v.real v.flag a n cap by rw [<- ek.out, <- et.out, <- ei.out, <- er.out, <- ef.out]] at hvw
     obtain ⟨x, bb, o, a', cap', hxj, hmem, rfl, hx, d0, d1, d2, d3, d4, d5⟩ := hvw.elem' hlt
     replace d0 := Aj _ _ d0
     replace d1 := Aj _ _ d1
     replace d2 := Aj _ _ d2
     replace d3 := Aj _ _ d3
     replace d4 := Aj _ _ d4
     replace d5 := Aj _ _ d5
     have hts : v.list.take (j + 1) = v.list.take j ++ [x] := by
       obtain ⟨h1, h2⟩ := List.getElem?_eq_some_iff.1 hxj
       rw [List.take_succ_eq_append_getElem h1, h2]
     have hal : Below B wr (wr.alloc (.cells #[.int .i64 x.kind, .string x.text, .int .i64 x.int, .float .f64 x.real, .bool x.flag, .slice a' x.list.length cap'] 26)) := (Below.refl B wr).alloc hBj _
     have hal2 : Below wr.heap.size wr (wr.alloc (.cells #[.int .i64 x.kind, .string x.text, .int .i64 x.int, .float .f64 x.real, .bool x.flag, .slice a' x.list.length cap'] 26)) := (Below.refl _ wr).alloc (Nat.le_refl _) _
     have hxf := Bb hfe.out.2 x hmem
     have hxr := V.rangedL_mem hra.out.2.2.2 x hmem
     have hce := v.count_eq
     have hcx : V.countL (v.list.take j) + x.count <= V.countL v.list := by
       have h1 := V.countL_take v.list (j + 1)
       rw [hts, V.countL_append] at h1
       simp only [V.countL] at h1
       omega
     have hwl := D2 (v.list.take j) (d - 1) (V.fineL_take hfe.out.2 j) (Bn fun z hz => V.rangedL_mem hra.out.2.2.2 z (List.mem_of_mem_take hz)) (by omega)
     have hsz : (s ++ T ++ ⟨(V.wireL (v.list.take j)).toArray⟩).size + 5000 * x.count <= 1000000000000 := by
       rw [ByteArray.size_append, ByteArray.size_append]
       have e : (⟨(V.wireL (v.list.take j)).toArray⟩ : ByteArray).size = (V.wireL (v.list.take j)).length := Cy _
       omega
     have hput := ih.out x hmem x.kind x.text x.int x.real x.flag a' x.list.length cap' (d - 1) B _ u0 _ ⟨hx.mono (Ak hal), hxf, hxr, by omega, (hL.out.below hbj (Nat.le_refl _)).below hal (Nat.le_refl _), hRj.below hal2 (Nat.le_refl _), Nat.le_trans hBj hal.size, hsz⟩
     have nbal := nbj.trans (NB.of_below hal2)
     have hbal := hbj.trans hal
     replace hput := Hd hput
     replace hts := Hd hts
     replace hal := Hd hal
     replace hbal := Hd hbal
     replace nbal := Hd nbal
     clear hvw hx hxj hmem hxf hxr hce hcx hwl hsz hal2 hRj hbj nbj
     go_wp2_with fail
     refine hput.out.mono ?_
     rintro e w5 ⟨b5, rfl, hR5, hb5, n5⟩
     have hb6 := hbal.out.trans hb5
     have nb6 := nbal.out.trans n5
     clear hb5 n5 d0 d1 d2 d3 d4 d5
     replace hR5 := Hd hR5
     replace hb6 := Hd hb6
     replace nb6 := Hd nb6
     go_wp2_with fail
     go_roundw
     case rel =>
       refine ⟨j + 1, by omega, by go_num, ?_, hb6.out, nb6.out⟩
       rw [hts.out, V.wireL_snoc, B3, <- ByteArray.append_assoc]
       exact hR5.out
     case measure => simp [intOf]; omega
   · have hlti : ¬ (j : Int) < (n : Int) := by omega
     have hj9 : v.list.take j = v.list := List.take_of_length_le (by have := en.out; omega)
     rw [hj9, ByteArray.append_assoc, <- hwe.out] at hRj
     replace hRj := Hd hRj
     replace hbj := Hd hbj
     replace nbj := Hd nbj
     go_wp2_with fail
     go_ret
     exact ⟨_, rfl, hRj.out, hbj.out, nbj.out⟩
set_option maxRecDepth 100000 in
set_option maxHeartbeats 6400000 in
theorem put_13 {v : V} (ih : ∀ x ∈ v.list, ∀ (k : Int) (t : ByteArray) (i : Int) (r : Nat) (f : Bool) (a : Option Addr) (n cap : Nat) (d : Int) (B : Nat) (w : World) (b : Value) (s : ByteArray), PutH x k t i r f a n cap d B w b s ->
      Calls Tryz.prog 33 #[b, .agg #[.int .i64 k, .string t, .int .i64 i, .float .f64 r, .bool f, .slice a n cap]] w (PutQ x B w s))
   {t : ByteArray} {i : Int} {r : Nat} {f : Bool} {a : Option Addr} {n cap : Nat} {d : Int} {B : Nat} {w : World} {b : Value} {s : ByteArray} (hp : PutH v 13 t i r f a n cap d B w b s) :
   Calls Tryz.prog 33 #[b, .agg #[.int .i64 13, .string t, .int .i64 i, .float .f64 r, .bool f, .slice a n cap]] w (PutQ v B w s) := by
 replace ih := Hd ih
 obtain ⟨hv, hf, hr, hc, hL, hR, hB, hs⟩ := hp
 obtain ⟨ek, et, ei, er, ef, en⟩ := hv.len
 have hfe := hf
 rw [V.fine_eq, Bool.and_eq_true, Bool.and_eq_true] at hfe
 have ok := Ao hfe.1.1
 have hts := ok.size
 rw [<- et] at hts
 have hra := hr
 rw [V.ranged_eq, <- ei, <- er] at hra
 have hcp := v.count_pos
 have hce0 := v.count_eq
 have hln := V.length_le v.list
 rw [<- en] at hln
 have hn9 : n <= 100000 := by omega
 clear hce0 hln
 replace hL := Hd hL
 replace hR := Hd hR
 replace hv := Hd hv
 replace hf := Hd hf
 replace hr := Hd hr
 replace ok := Hd ok
 replace hfe := Hd hfe
 replace hra := Hd hra
 replace ek := Hd ek
 replace et := Hd et
 replace ei := Hd ei
 replace er := Hd er
 replace ef := Hd ef
 replace en := Hd en
 have hwe : (⟨v.wire.toArray⟩ : ByteArray) = numB 126 ((n : Nat) : Int) ++ ⟨(V.wireL v.list).toArray⟩ := by
   rw [<- Cq, <- B3]
   congr 1
   rw [V.wire_eq, <- ek.out, <- en.out]; rfl
 replace hwe := Hd hwe
 have hix := Bd 13 (by omega)
 replace hix := Hd hix
 have hix := fun W => hix.out W
 obtain ⟨W1, hW1⟩ : ∃ W1, W1 = w.alloc (.cells #[.int .i64 13, .string t, .int .i64 i, .float .f64 r, .bool f, .slice a n cap] 26) := ⟨_, rfl⟩
 have hb0 : Below w.heap.size w W1 := by rw [hW1]; exact (Below.refl _ _).alloc (Nat.le_refl _) _
 have hcell : ∀ q u, #[.int .i64 13, .string t, .int .i64 i, .float .f64 r, .bool f, .slice a n cap][q]? = some u -> W1.cell? ⟨w.heap.size, q, none⟩ = some u := fun q u h => by rw [hW1, World.cell?_alloc_new]; exact h
 have c0 := hcell 0 (.int .i64 13) rfl
 have hlt : w.heap.size < W1.heap.size := World.block_lt_of_cell? _ _ c0
 replace hW1 := Hd hW1
 replace hcell := Hd hcell
 replace hb0 := Hd hb0
 go_enter Tryz.func33, Tryz.ntmps33
 go_wp2_with fail
 rw [<- hW1.out]
 go_wp2_with fail
 refine Al (by kernel_rfl) (by kernel_rfl) ?_
 repeat (go_big_quiet_step ((go_at_call 51; (with_reducible exact At (Ax _)))))
 refine wpQuiet_nil ?_
 rintro _ ⟨xq, rfl⟩
 have hS := An W1 xq
 obtain ⟨W2, hW2⟩ : ∃ W2, W2 = grow W1 xq := ⟨_, rfl⟩
 rw [<- hW2] at hS ⊢
 have g0 := Aa hS _ _ (hcell.out 0 (.int .i64 13) rfl)
 have g1 := Aa hS _ _ (hcell.out 1 (.string t) rfl)
 have g2 := Aa hS _ _ (hcell.out 2 (.int .i64 i) rfl)
 have g3 := Aa hS _ _ (hcell.out 3 (.float .f64 r) rfl)
 have g4 := Aa hS _ _ (hcell.out 4 (.bool f) rfl)
 have g5 := Aa hS _ _ (hcell.out 5 (.slice a n cap) rfl)
 have hb2 : Below w.heap.size w W2 := hb0.out.trans (hS.mono hb0.out.size)
 have hR2 := hR.out.below hb2 (Nat.le_refl _)
 have hL2 := hL.out.below hb2 hB
 have hB2 : B <= W2.heap.size := Nat.le_trans hB hb2.size
 have hbB : Below B w W2 := hb2.mono hB
 have nb2 : NB w W2 := NB.of_below hb2
 have hbox : W2.heap[w.heap.size]? = some (.cells #[.int .i64 13, .string t, .int .i64 i, .float .f64 r, .bool f, .slice a n cap] 26) := by rw [hS.block _ hlt, hW1.out]; exact Ag _ _
 clear c0 hS hlt
 replace nb2 := Hd nb2
 replace hbox := Hd hbox
 replace hW2 := Hd hW2
 replace hR2 := Hd hR2
 replace hL2 := Hd hL2
 replace hbB := Hd hbB
 replace hb2 := Hd hb2
 go_wp2_with fail
 refine (Bi 126 ((n : Nat) : Int) (by omega) (by omega) hL2.out.nums hR2.out hB2 (by omega)).mono ?_
 rintro e w3 ⟨b3, rfl, hR3, hb3, n3⟩
 have hz3 := Bf 126 ((n : Nat) : Int) (by omega) (by omega)
 have hb03 := hbB.out.trans hb3
 have nb3 := nb2.out.trans n3
 have f5 : w3.cell? ⟨w.heap.size, 5, none⟩ = some (.slice a n cap) := by rw [n3.cell hbox.out (by decide)]; exact g5
 have hB3 : B <= w3.heap.size := Nat.le_trans hB2 hb3.size
 generalize numB 126 ((n : Nat) : Int) = T at *
 clear g0 g1 g2 g3 g4 g5 hb3 n3
 replace hR3 := Hd hR3
 replace hb03 := Hd hb03
 replace nb3 := Hd nb3
 go_wp2_with fail
 go_loopw [0, 87] (fun s0 s87 wr => ∃ j : Nat, j <= n /\ s87 = .int .i64 j /\ Row B wr s0 (s ++ T ++ ⟨(V.wireL (v.list.take j)).toArray⟩) /\ Below B w wr /\ NB w wr) (fun _ s87 _ => n - (intOf s87).toNat)
 case atStart => exact ⟨0, Nat.zero_le _, rfl, by rw [List.take_zero, V.wireL]; rw [show (⟨([] : List UInt8).toArray⟩ : ByteArray) = ⟨#[]⟩ from rfl, Aq]; exact hR3.out, hb03.out, nb3.out⟩
 case round =>
   obtain ⟨j, hj, rfl, hRj, hbj, nbj⟩ := hrel
   clear hR3 hb03 nb3 f5
   have hBj : B <= wr.heap.size := by have := hbj.size; omega
   by_cases hlt : j < n
   · have hlti : (j : Int) < (n : Int) := by omega
     have hvw := hv.out.mono (Ak hbj)
     rw [show Ad 13 t i r f a n cap = Ad v.kind v.text v.int v.real v.flag a n cap by rw [<- ek.out, <- et.out, <- ei.out, <- er.out, <- ef.out]] at hvw
     obtain ⟨x, bb, o, a', cap', hxj, hmem, rfl, hx, d0, d1, d2, d3, d4, d5⟩ := hvw.elem' hlt
     replace d0 := Aj _ _ d0
     replace d1 := Aj _ _ d1
     replace d2 := Aj _ _ d2
     replace d3 := Aj _ _ d3
     replace d4 := Aj _ _ d4
     replace d5 := Aj _ _ d5
     have hts : v.list.take (j + 1) = v.list.take j ++ [x] := by
       obtain ⟨h1, h2⟩ := List.getElem?_eq_some_iff.1 hxj
       rw [List.take_succ_eq_append_getElem h1, h2]
     have hal : Below B wr (wr.alloc (.cells #[.int .i64 x.kind, .string x.text, .int .i64 x.int, .float .f64 x.real, .bool x.flag, .slice a' x.list.length cap'] 26)) := (Below.refl B wr).alloc hBj _
     have hal2 : Below wr.heap.size wr (wr.alloc (.cells #[.int .i64 x.kind, .string x.text, .int .i64 x.int, .float .f64 x.real, .bool x.flag, .slice a' x.list.length cap'] 26)) := (Below.refl _ wr).alloc (Nat.le_refl _) _
     have hxf := Bb hfe.out.2 x hmem
     have hxr := V.rangedL_mem hra.out.2.2.2 x hmem
     have hce := v.count_eq
     have hcx : V.countL (v.list.take j) + x.count <= V.countL v.list := by
       have h1 := V.countL_take v.list (j + 1)
       rw [hts, V.countL_append] at h1
       simp only [V.countL] at h1
       omega
     have hwl := D2 (v.list.take j) (d - 1) (V.fineL_take hfe.out.2 j) (Bn fun z hz => V.rangedL_mem hra.out.2.2.2 z (List.mem_of_mem_take hz)) (by omega)
     have hsz : (s ++ T ++ ⟨(V.wireL (v.list.take j)).toArray⟩).size + 5000 * x.count <= 1000000000000 := by
       rw [ByteArray.size_append, ByteArray.size_append]
       have e : (⟨(V.wireL (v.list.take j)).toArray⟩ : ByteArray).size = (V.wireL (v.list.take j)).length := Cy _
       omega
     have hput := ih.out x hmem x.kind x.text x.int x.real x.flag a' x.list.length cap' (d - 1) B _ u0 _ ⟨hx.mono (Ak hal), hxf, hxr, by omega, (hL.out.below hbj (Nat.le_refl _)).below hal (Nat.le_refl _), hRj.below hal2 (Nat.le_refl _), Nat.le_trans hBj hal.size, hsz⟩
     have nbal := nbj.trans (NB.of_below hal2)
     have hbal := hbj.trans hal
     replace hput := Hd hput
     replace hts := Hd hts
     replace hal := Hd hal
     replace hbal := Hd hbal
     replace nbal := Hd nbal
     clear hvw hx hxj hmem hxf hxr hce hcx hwl hsz hal2 hRj hbj nbj
     go_wp2_with fail
     refine hput.out.mono ?_
     rintro e w5 ⟨b5, rfl, hR5, hb5, n5⟩
     have hb6 := hbal.out.trans hb5
     have nb6 := nbal.out.trans n5
     clear hb5 n5 d0 d1 d2 d3 d4 d5
     replace hR5 := Hd hR5
     replace hb6 := Hd hb6
     replace nb6 := Hd nb6
     go_wp2_with fail
     go_roundw
     case rel =>
       refine ⟨j + 1, by omega, by go_num, ?_, hb6.out, nb6.out⟩
       rw [hts.out, V.wireL_snoc, B3, <- ByteArray.append_assoc]
       exact hR5.out
     case measure => simp [intOf]; omega
   · have hlti : ¬ (j : Int) < (n : Int) := by omega
     have hj9 : v.list.take j = v.list := List.take_of_length_le (by have := en.out; omega)
     rw [hj9, ByteArray.append_assoc, <- hwe.out] at hRj
     replace hRj := Hd hRj
     replace hbj := Hd hbj
     replace nbj := Hd nbj
     go_wp2_with fail
     go_ret
     exact ⟨_, rfl, hRj.out, hbj.out, nbj.out⟩
set_option maxRecDepth 100000 in
set_option maxHeartbeats 6400000 in
theorem put_14 {v : V} (ih : ∀ x ∈ v.list, ∀ (k : Int) (t : ByteArray) (i : Int) (r : Nat) (f : Bool) (a : Option Addr) (n cap : Nat) (d : Int) (B : Nat) (w : World) (b : Value) (s : ByteArray), PutH x k t i r f a n cap d B w b s ->
      Calls Tryz.prog 33 #[b, .agg #[.int .i64 k, .string t, .int .i64 i, .float .f64 r, .bool f, .slice a n cap]] w (PutQ x B w s))
   {t : ByteArray} {i : Int} {r : Nat} {f : Bool} {a : Option Addr} {n cap : Nat} {d : Int} {B : Nat} {w : World} {b : Value} {s : ByteArray} (hp : PutH v 14 t i r f a n cap d B w b s) :
   Calls Tryz.prog 33 #[b, .agg #[.int .i64 14, .string t, .int .i64 i, .float .f64 r, .bool f, .slice a n cap]] w (PutQ v B w s) := by
 replace ih := Hd ih
 obtain ⟨hv, hf, hr, hc, hL, hR, hB, hs⟩ := hp
 obtain ⟨ek, et, ei, er, ef, en⟩ := hv.len
 have hfe := hf
 rw [V.fine_eq, Bool.and_eq_true, Bool.and_eq_true] at hfe
 have ok := Ao hfe.1.1
 have hts := ok.size
 rw [<- et] at hts
 have hra := hr
 rw [V.ranged_eq, <- ei, <- er] at hra
 have hcp := v.count_pos
 have hce0 := v.count_eq
 have hln := V.length_le v.list
 rw [<- en] at hln
 have hn9 : n <= 100000 := by omega
 clear hce0 hln
 replace hL := Hd hL
 replace hR := Hd hR
 replace hv := Hd hv
 replace hf := Hd hf
 replace hr := Hd hr
 replace ok := Hd ok
 replace hfe := Hd hfe
 replace hra := Hd hra
 replace ek := Hd ek
 replace et := Hd et
 replace ei := Hd ei
 replace er := Hd er
 replace ef := Hd ef
 replace en := Hd en
 have hwe : (⟨v.wire.toArray⟩ : ByteArray) = numB 62 ((n : Nat) : Int) ++ ⟨(V.wireL v.list).toArray⟩ := by
   rw [<- Cq, <- B3]
   congr 1
   rw [V.wire_eq, <- ek.out, <- en.out]; rfl
 replace hwe := Hd hwe
 have hix := Bd 14 (by omega)
 replace hix := Hd hix
 have hix := fun W => hix.out W
 obtain ⟨W1, hW1⟩ : ∃ W1, W1 = w.alloc (.cells #[.int .i64 14, .string t, .int .i64 i, .float .f64 r, .bool f, .slice a n cap] 26) := ⟨_, rfl⟩
 have hb0 : Below w.heap.size w W1 := by rw [hW1]; exact (Below.refl _ _).alloc (Nat.le_refl _) _
 have hcell : ∀ q u, #[.int .i64 14, .string t, .int .i64 i, .float .f64 r, .bool f, .slice a n cap][q]? = some u -> W1.cell? ⟨w.heap.size, q, none⟩ = some u := fun q u h => by rw [hW1, World.cell?_alloc_new]; exact h
 have c0 := hcell 0 (.int .i64 14) rfl
 have hlt : w.heap.size < W1.heap.size := World.block_lt_of_cell? _ _ c0
 replace hW1 := Hd hW1
 replace hcell := Hd hcell
 replace hb0 := Hd hb0
 go_enter Tryz.func33, Tryz.ntmps33
 go_wp2_with fail
 rw [<- hW1.out]
 go_wp2_with fail
 refine Al (by kernel_rfl) (by kernel_rfl) ?_
 repeat (go_big_quiet_step ((go_at_call 51; (with_reducible exact At (Ax _)))))
 refine wpQuiet_nil ?_
 rintro _ ⟨xq, rfl⟩
 have hS := An W1 xq
 obtain ⟨W2, hW2⟩ : ∃ W2, W2 = grow W1 xq := ⟨_, rfl⟩
 rw [<- hW2] at hS ⊢
 have g0 := Aa hS _ _ (hcell.out 0 (.int .i64 14) rfl)
 have g1 := Aa hS _ _ (hcell.out 1 (.string t) rfl)
 have g2 := Aa hS _ _ (hcell.out 2 (.int .i64 i) rfl)
 have g3 := Aa hS _ _ (hcell.out 3 (.float .f64 r) rfl)
 have g4 := Aa hS _ _ (hcell.out 4 (.bool f) rfl)
 have g5 := Aa hS _ _ (hcell.out 5 (.slice a n cap) rfl)
 have hb2 : Below w.heap.size w W2 := hb0.out.trans (hS.mono hb0.out.size)
 have hR2 := hR.out.below hb2 (Nat.le_refl _)
 have hL2 := hL.out.below hb2 hB
 have hB2 : B <= W2.heap.size := Nat.le_trans hB hb2.size
 have hbB : Below B w W2 := hb2.mono hB
 have nb2 : NB w W2 := NB.of_below hb2
 have hbox : W2.heap[w.heap.size]? = some (.cells #[.int .i64 14, .string t, .int .i64 i, .float .f64 r, .bool f, .slice a n cap] 26) := by rw [hS.block _ hlt, hW1.out]; exact Ag _ _
 clear c0 hS hlt
 replace nb2 := Hd nb2
 replace hbox := Hd hbox
 replace hW2 := Hd hW2
 replace hR2 := Hd hR2
 replace hL2 := Hd hL2
 replace hbB := Hd hbB
 replace hb2 := Hd hb2
 go_wp2_with fail
 refine (Bi 62 ((n : Nat) : Int) (by omega) (by omega) hL2.out.nums hR2.out hB2 (by omega)).mono ?_
 rintro e w3 ⟨b3, rfl, hR3, hb3, n3⟩
 have hz3 := Bf 62 ((n : Nat) : Int) (by omega) (by omega)
 have hb03 := hbB.out.trans hb3
 have nb3 := nb2.out.trans n3
 have f5 : w3.cell? ⟨w.heap.size, 5, none⟩ = some (.slice a n cap) := by rw [n3.cell hbox.out (by decide)]; exact g5
 have hB3 : B <= w3.heap.size := Nat.le_trans hB2 hb3.size
 generalize numB 62 ((n : Nat) : Int) = T at *
 clear g0 g1 g2 g3 g4 g5 hb3 n3
 replace hR3 := Hd hR3
 replace hb03 := Hd hb03
 replace nb3 := Hd nb3
 go_wp2_with fail
 go_loopw [0, 87] (fun s0 s87 wr => ∃ j : Nat, j <= n /\ s87 = .int .i64 j /\ Row B wr s0 (s ++ T ++ ⟨(V.wireL (v.list.take j)).toArray⟩) /\ Below B w wr /\ NB w wr) (fun _ s87 _ => n - (intOf s87).toNat)
 case atStart => exact ⟨0, Nat.zero_le _, rfl, by rw [List.take_zero, V.wireL]; rw [show (⟨([] : List UInt8).toArray⟩ : ByteArray) = ⟨#[]⟩ from rfl, Aq]; exact hR3.out, hb03.out, nb3.out⟩
 case round =>
   obtain ⟨j, hj, rfl, hRj, hbj, nbj⟩ := hrel
   clear hR3 hb03 nb3 f5
   have hBj : B <= wr.heap.size := by have := hbj.size; omega
   by_cases hlt : j < n
   · have hlti : (j : Int) < (n : Int) := by omega
     have hvw := hv.out.mono (Ak hbj)
     rw [show Ad 14 t i r f a n cap = Ad v.kind v.text v.int v.real v.flag a n cap by rw [<- ek.out, <- et.out, <- ei.out, <- er.out, <- ef.out]] at hvw
     obtain ⟨x, bb, o, a', cap', hxj, hmem, rfl, hx, d0, d1, d2, d3, d4, d5⟩ := hvw.elem' hlt
     replace d0 := Aj _ _ d0
     replace d1 := Aj _ _ d1
     replace d2 := Aj _ _ d2
     replace d3 := Aj _ _ d3
     replace d4 := Aj _ _ d4
     replace d5 := Aj _ _ d5
     have hts : v.list.take (j + 1) = v.list.take j ++ [x] := by
       obtain ⟨h1, h2⟩ := List.getElem?_eq_some_iff.1 hxj
       rw [List.take_succ_eq_append_getElem h1, h2]
     have hal : Below B wr (wr.alloc (.cells #[.int .i64 x.kind, .string x.text, .int .i64 x.int, .float .f64 x.real, .bool x.flag, .slice a' x.list.length cap'] 26)) := (Below.refl B wr).alloc hBj _
     have hal2 : Below wr.heap.size wr (wr.alloc (.cells #[.int .i64 x.kind, .string x.text, .int .i64 x.int, .float .f64 x.real, .bool x.flag, .slice a' x.list.length cap'] 26)) := (Below.refl _ wr).alloc (Nat.le_refl _) _
     have hxf := Bb hfe.out.2 x hmem
     have hxr := V.rangedL_mem hra.out.2.2.2 x hmem
     have hce := v.count_eq
     have hcx : V.countL (v.list.take j) + x.count <= V.countL v.list := by
       have h1 := V.countL_take v.list (j + 1)
       rw [hts, V.countL_append] at h1
       simp only [V.countL] at h1
       omega
     have hwl := D2 (v.list.take j) (d - 1) (V.fineL_take hfe.out.2 j) (Bn fun z hz => V.rangedL_mem hra.out.2.2.2 z (List.mem_of_mem_take hz)) (by omega)
     have hsz : (s ++ T ++ ⟨(V.wireL (v.list.take j)).toArray⟩).size + 5000 * x.count <= 1000000000000 := by
       rw [ByteArray.size_append, ByteArray.size_append]
       have e : (⟨(V.wireL (v.list.take j)).toArray⟩ : ByteArray).size = (V.wireL (v.list.take j)).length := Cy _
       omega
     have hput := ih.out x hmem x.kind x.text x.int x.real x.flag a' x.list.length cap' (d - 1) B _ u0 _ ⟨hx.mono (Ak hal), hxf, hxr, by omega, (hL.out.below hbj (Nat.le_refl _)).below hal (Nat.le_refl _), hRj.below hal2 (Nat.le_refl _), Nat.le_trans hBj hal.size, hsz⟩
     have nbal := nbj.trans (NB.of_below hal2)
     have hbal := hbj.trans hal
     replace hput := Hd hput
     replace hts := Hd hts
     replace hal := Hd hal
     replace hbal := Hd hbal
     replace nbal := Hd nbal
     clear hvw hx hxj hmem hxf hxr hce hcx hwl hsz hal2 hRj hbj nbj
     go_wp2_with fail
     refine hput.out.mono ?_
     rintro e w5 ⟨b5, rfl, hR5, hb5, n5⟩
     have hb6 := hbal.out.trans hb5
     have nb6 := nbal.out.trans n5
     clear hb5 n5 d0 d1 d2 d3 d4 d5
     replace hR5 := Hd hR5
     replace hb6 := Hd hb6
     replace nb6 := Hd nb6
     go_wp2_with fail
     go_roundw
     case rel =>
       refine ⟨j + 1, by omega, by go_num, ?_, hb6.out, nb6.out⟩
       rw [hts.out, V.wireL_snoc, B3, <- ByteArray.append_assoc]
       exact hR5.out
     case measure => simp [intOf]; omega
   · have hlti : ¬ (j : Int) < (n : Int) := by omega
     have hj9 : v.list.take j = v.list := List.take_of_length_le (by have := en.out; omega)
     rw [hj9, ByteArray.append_assoc, <- hwe.out] at hRj
     replace hRj := Hd hRj
     replace hbj := Hd hbj
     replace nbj := Hd nbj
     go_wp2_with fail
     go_ret
     exact ⟨_, rfl, hRj.out, hbj.out, nbj.out⟩
theorem Bq (v : V) : ∀ (k : Int) (t : ByteArray) (i : Int) (r : Nat) (f : Bool) (a : Option Addr) (n cap : Nat) (d : Int) (B : Nat) (w : World) (b : Value) (s : ByteArray), PutH v k t i r f a n cap d B w b s ->
   Calls Tryz.prog 33 #[b, .agg #[.int .i64 k, .string t, .int .i64 i, .float .f64 r, .bool f, .slice a n cap]] w (PutQ v B w s) := by
 induction v using V.ind with
 | h v ih =>
 intro k t i r f a n cap d B w b s hp
 have hk : 1 <= k /\ k <= 14 := by
   have hfe := hp.fine
   rw [V.fine_eq, Bool.and_eq_true, Bool.and_eq_true] at hfe
   rw [hp.val.len.1]
   exact (Ao hfe.1.1).kind
 rcases (by omega : k = 1 \/ k = 2 \/ k = 9 \/ k = 3 \/ k = 7 \/ k = 8 \/ k = 6 \/ k = 4 \/ k = 10 \/ k = 11 \/ k = 12 \/ k = 5 \/ k = 13 \/ k = 14) with rfl | rfl | rfl | rfl | rfl | rfl | rfl | rfl | rfl | rfl | rfl | rfl | rfl | rfl
 · exact put_1 hp
 · exact put_2 hp
 · exact put_9 hp
 · exact put_3 hp
 · exact put_7 hp
 · exact put_8 hp
 · exact put_6 hp
 · exact put_4 hp
 · exact put_10 hp
 · exact put_11 hp
 · exact put_12 ih hp
 · exact put_5 ih hp
 · exact put_13 ih hp
 · exact put_14 ih hp
end Go.Proofs.YtagkgfniihiinaaGreatDoor
