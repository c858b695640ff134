/- What the document's functions say of a value. -/
import Derived.Test.YtagkgfniihiinaaGreatDoorJ18
namespace Go.Proofs.YtagkgfniihiinaaGreatDoor
open Go.RowKit
theorem Bl (k : Int) (w : World) : Calls Tryz.prog 54 #[.int .i64 k] w fun e w' => e = .returned (.bool (A7 k)) /\ w' = w := by
 by_cases h5 : k = 5
 · subst h5
   go_enter Tryz.func54, Tryz.ntmps54
   go_wp2
   go_ret
   exact ⟨rfl, rfl⟩
 · have h5b : (k == 5) = false := by simpa using h5
   replace h5 := Hd h5
   by_cases h12 : 12 <= k
   · by_cases h14 : k <= 14
     · rw [show A7 k = true by simp [A7]; omega]
       go_enter Tryz.func54, Tryz.ntmps54
       go_wp2
       go_ret
       exact ⟨rfl, rfl⟩
     · rw [show A7 k = false by have := h5.out; simp [A7]; omega]
       go_enter Tryz.func54, Tryz.ntmps54
       go_wp2
       go_ret
       exact ⟨rfl, rfl⟩
   · rw [show A7 k = false by have := h5.out; simp [A7]; omega]
     go_enter Tryz.func54, Tryz.ntmps54
     go_wp2
     go_ret
     exact ⟨rfl, rfl⟩
theorem B8 (k : Int) (w : World) : Calls Tryz.prog 83 #[.int .i64 k] w fun e w' => e = .returned (.bool (Br k)) /\ w' = w := by
 rcases (by omega : k = 1 \/ k = 2 \/ k = 4 \/ (k ≠ 1 /\ k ≠ 2 /\ k ≠ 4)) with rfl | rfl | rfl | ⟨h1, h2, h4⟩
 · go_enter Tryz.func83, Tryz.ntmps83
   go_wp2
   go_ret
   exact ⟨rfl, rfl⟩
 · go_enter Tryz.func83, Tryz.ntmps83
   go_wp2
   go_ret
   exact ⟨rfl, rfl⟩
 · go_enter Tryz.func83, Tryz.ntmps83
   go_wp2
   go_ret
   exact ⟨rfl, rfl⟩
 · have h1b : (k == 1) = false := by simpa using h1
   have h2b : (k == 2) = false := by simpa using h2
   have h4b : (k == 4) = false := by simpa using h4
   replace h1 := Hd h1
   replace h2 := Hd h2
   replace h4 := Hd h4
   by_cases h9 : 9 <= k
   · by_cases h11 : k <= 11
     · rw [show Br k = true by simp [Br]; omega]
       go_enter Tryz.func83, Tryz.ntmps83
       go_wp2
       go_ret
       exact ⟨rfl, rfl⟩
     · rw [show Br k = false by have := h1.out; have := h2.out; have := h4.out; simp [Br]; omega]
       go_enter Tryz.func83, Tryz.ntmps83
       go_wp2
       go_ret
       exact ⟨rfl, rfl⟩
   · rw [show Br k = false by have := h1.out; have := h2.out; have := h4.out; simp [Br]; omega]
     go_enter Tryz.func83, Tryz.ntmps83
     go_wp2
     go_ret
     exact ⟨rfl, rfl⟩
set_option maxRecDepth 100000 in
set_option maxHeartbeats 3200000 in
theorem rcount_any (v : V) : ∀ (a : Option Addr) (cap : Nat) (w : World), RV w.cell? (Ad v.kind v.text v.int v.real v.flag a v.list.length cap) v -> v.count <= 100000 ->
   Calls Tryz.prog 38 #[.agg #[.int .i64 v.kind, .string v.text, .int .i64 v.int, .float .f64 v.real, .bool v.flag, .slice a v.list.length cap]] w fun e w' => e = .returned (.int .i64 v.count) /\ Below w.heap.size w w' := by
 induction v using V.ind with
 | h v ih =>
 intro a cap w hv hcnt
 replace ih := Hd ih
 replace hv := Hd hv
 have hn5 : v.list.length <= 100000 := by have := V.length_le v.list; have := v.count_list_lt; omega
 have hal0 := (Below.refl w.heap.size w).alloc (Nat.le_refl _) (.cells #[.int .i64 v.kind, .string v.text, .int .i64 v.int, .float .f64 v.real, .bool v.flag, .slice a v.list.length cap] 26)
 replace hal0 := Hd hal0
 go_enter Tryz.func38, Tryz.ntmps38
 go_wp2_with fail
 go_loopw [3, 9] (fun s3 s9 wr => ∃ j : Nat, j <= v.list.length /\ s9 = .int .i64 j /\ s3 = .int .i64 ((V.countL (v.list.take j) + 1 : Nat) : Int) /\ Below w.heap.size w wr) (fun _ s9 _ => v.list.length - (intOf s9).toNat)
 case atStart => exact ⟨0, Nat.zero_le _, rfl, rfl, hal0.out⟩
 case round =>
   obtain ⟨j, hj, rfl, rfl, hbel⟩ := hrel
   clear hal0
   by_cases hlt : j < v.list.length
   · obtain ⟨x, b, o, a', cap', hxj, hmem, rfl, hx, d0, d1, d2, d3, d4, d5⟩ := hv.out.elem' hlt
     have hbw := World.block_lt_of_cell? _ _ d0
     have up : ∀ (q : Nat) u, w.cell? ⟨b, q, none⟩ = some u -> wr.cell? ⟨b, q, none⟩ = some u := fun q u h => by rw [hbel.cell (by exact hbw)]; exact h
     replace d0 := up _ _ d0
     replace d1 := up _ _ d1
     replace d2 := up _ _ d2
     replace d3 := up _ _ d3
     replace d4 := up _ _ d4
     replace d5 := up _ _ d5
     have hx' := hx.mono (Aa (hbel.trans ((Below.refl wr.heap.size wr).alloc (Nat.le_refl _) (.cells #[.int .i64 x.kind, .string x.text, .int .i64 x.int, .float .f64 x.real, .bool x.flag, .slice a' x.list.length cap'] 26) |>.mono hbel.size)))
     have hxc : x.count <= 100000 := by have := V.count_mem hmem; have := v.count_list_lt; omega
     have hts : v.list.take (j + 1) = v.list.take j ++ [x] := by
       obtain ⟨h1, h2⟩ := List.getElem?_eq_some_iff.1 hxj
       rw [List.take_succ_eq_append_getElem h1, h2]
     have hal : Below w.heap.size w (wr.alloc (.cells #[.int .i64 x.kind, .string x.text, .int .i64 x.int, .float .f64 x.real, .bool x.flag, .slice a' x.list.length cap'] 26)) := hbel.alloc hbel.size _
     replace hx' := Hd hx'
     replace hxj := Hd hxj
     replace hmem := Hd hmem
     replace hts := Hd hts
     replace hal := Hd hal
     clear up hx
     have hcj := V.countL_take v.list j
     have hcv := v.count_list_lt
     obtain ⟨m, hm⟩ : ∃ m, m = V.countL (v.list.take j) := ⟨_, rfl⟩
     rw [<- hm] at hcj ⊢
     replace hm := Hd hm
     go_wp2_with fail
     refine (ih.out x hmem.out a' cap' _ hx'.out hxc).mono ?_
     rintro e w4 ⟨rfl, hb4⟩
     have hbel4 : Below w.heap.size w w4 := hal.out.trans (hb4.mono hal.out.size)
     clear hb4 hbel d0 d1 d2 d3 d4 d5
     go_wp2
     go_roundw
     case rel => exact ⟨j + 1, by omega, by go_num, by rw [hts.out, V.countL_append]; simp only [V.countL, Nat.add_zero]; rw [<- hm.out]; congr 1; omega, hbel4⟩
     case measure => simp [intOf]; omega
   · have hjn : j = v.list.length := by omega
     subst hjn
     rw [List.take_length]
     go_wp2
     go_ret
     exact ⟨by rw [V.count_eq]; rfl, hbel⟩
set_option maxRecDepth 100000 in
set_option maxHeartbeats 3200000 in
theorem rdepth_any (v : V) : ∀ (a : Option Addr) (cap : Nat) (w : World), RV w.cell? (Ad v.kind v.text v.int v.real v.flag a v.list.length cap) v -> v.count <= 100000 ->
   Calls Tryz.prog 37 #[.agg #[.int .i64 v.kind, .string v.text, .int .i64 v.int, .float .f64 v.real, .bool v.flag, .slice a v.list.length cap]] w fun e w' => e = .returned (.int .i64 v.dep) /\ Below w.heap.size w w' := by
 induction v using V.ind with
 | h v ih =>
 intro a cap w hv hcnt
 replace ih := Hd ih
 replace hv := Hd hv
 have hn5 : v.list.length <= 100000 := by have := V.length_le v.list; have := v.count_list_lt; omega
 have hal0 := (Below.refl w.heap.size w).alloc (Nat.le_refl _) (.cells #[.int .i64 v.kind, .string v.text, .int .i64 v.int, .float .f64 v.real, .bool v.flag, .slice a v.list.length cap] 26)
 replace hal0 := Hd hal0
 cases hlk : A7 v.kind with
 | false =>
   have hz : v.dep = 0 := by rw [V.dep_eq, hlk]; rfl
   replace hz := Hd hz
   replace hlk := Hd hlk
   go_enter Tryz.func37, Tryz.ntmps37
   go_wp2_with fail
   refine (Bl v.kind _).mono ?_
   rintro e w1 ⟨rfl, hw1⟩
   rw [hw1, hlk.out]
   go_wp2
   go_ret
   exact ⟨by rw [hz.out]; rfl, hal0.out⟩
 | true =>
   have hz : v.dep = V.depL v.list + 1 := by rw [V.dep_eq, hlk]; rfl
   replace hz := Hd hz
   replace hlk := Hd hlk
   go_enter Tryz.func37, Tryz.ntmps37
   go_wp2_with fail
   refine (Bl v.kind _).mono ?_
   rintro e w1 ⟨rfl, hw1⟩
   rw [hw1, hlk.out]
   go_wp2_with fail
   go_loopw [3, 6, 14] (fun s3 _ s20 wr => ∃ j : Nat, j <= v.list.length /\ s20 = .int .i64 j /\ s3 = .int .i64 (V.depL (v.list.take j) + 1) /\ Below w.heap.size w wr) (fun _ _ s20 _ => v.list.length - (intOf s20).toNat)
   case atStart => exact ⟨0, Nat.zero_le _, rfl, rfl, hal0.out⟩
   case round =>
     obtain ⟨j, hj, rfl, rfl, hbel⟩ := hrel
     clear hal0 hw1
     by_cases hlt : j < v.list.length
     · obtain ⟨x, b, o, a', cap', hxj, hmem, rfl, hx, d0, d1, d2, d3, d4, d5⟩ := hv.out.elem' hlt
       have hbw := World.block_lt_of_cell? _ _ d0
       have up : ∀ (q : Nat) u, w.cell? ⟨b, q, none⟩ = some u -> wr.cell? ⟨b, q, none⟩ = some u := fun q u h => by rw [hbel.cell (by exact hbw)]; exact h
       replace d0 := up _ _ d0
       replace d1 := up _ _ d1
       replace d2 := up _ _ d2
       replace d3 := up _ _ d3
       replace d4 := up _ _ d4
       replace d5 := up _ _ d5
       have hx' := hx.mono (Aa (hbel.trans ((Below.refl wr.heap.size wr).alloc (Nat.le_refl _) (.cells #[.int .i64 x.kind, .string x.text, .int .i64 x.int, .float .f64 x.real, .bool x.flag, .slice a' x.list.length cap'] 26) |>.mono hbel.size)))
       have hxc : x.count <= 100000 := by have := V.count_mem hmem; have := v.count_list_lt; omega
       have hts : v.list.take (j + 1) = v.list.take j ++ [x] := by
         obtain ⟨h1, h2⟩ := List.getElem?_eq_some_iff.1 hxj
         rw [List.take_succ_eq_append_getElem h1, h2]
       have hal : Below w.heap.size w (wr.alloc (.cells #[.int .i64 x.kind, .string x.text, .int .i64 x.int, .float .f64 x.real, .bool x.flag, .slice a' x.list.length cap'] 26)) := hbel.alloc hbel.size _
       replace hx' := Hd hx'
       replace hxj := Hd hxj
       replace hmem := Hd hmem
       replace hts := Hd hts
       replace hal := Hd hal
       clear up hx
       have hxd := x.dep_count
       obtain ⟨m, hm⟩ : ∃ m, m = V.depL (v.list.take j) := ⟨_, rfl⟩
       rw [<- hm]
       replace hm := Hd hm
       go_wp2_with fail
       refine (ih.out x hmem.out a' cap' _ hx'.out hxc).mono ?_
       rintro e w4 ⟨rfl, hb4⟩
       have hbel4 : Below w.heap.size w w4 := hal.out.trans (hb4.mono hal.out.size)
       clear hb4 hbel d0 d1 d2 d3 d4 d5
       by_cases hmx : m < x.dep
       all_goals
         go_wp2
         go_roundw
         case rel => exact ⟨j + 1, by omega, by go_num, by rw [hts.out, V.depL_snoc, <- hm.out] <;> exact congrArg (Value.int .i64) (by omega), hbel4⟩
         case measure => simp [intOf]; omega
     · have hjn : j = v.list.length := by omega
       subst hjn
       rw [List.take_length]
       go_wp2
       go_ret
       exact ⟨by rw [hz.out]; rfl, hbel⟩
end Go.Proofs.YtagkgfniihiinaaGreatDoor
