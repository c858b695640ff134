/- wire.Down: a value as older readers know it. -/
import Derived.Test.YtagkgfniihiinaaGreatDoorDownP
import Derived.Test.YtagkgfniihiinaaGreatDoorWire3
import Derived.Test.YtagkgfniihiinaaGreatDoorRely2
import Derived.Test.YtagkgfniihiinaaGreatDoorGives
namespace Go.Proofs.YtagkgfniihiinaaGreatDoor
open Go.RowKit Go.Joins
structure DownH (v : V) (k : Int) (t : ByteArray) (i : Int) (r : Nat) (f : Bool) (a : Option Addr) (n cap : Nat) (d : Int) (w : World) : Prop where
 val : RV w.cell? (Ad k t i r f a n cap) v
 fine : v.fine d = true
 ranged : v.ranged
 count : v.count <= 100000
 laid : LaidV w.heap.size w
def Bx (v : V) (w : World) (e : Ending) (w' : World) : Prop := ∃ a' cap', e = .returned (.agg #[.int .i64 v.down.kind, .string v.down.text, .int .i64 v.down.int, .float .f64 v.down.real, .bool v.down.flag, .slice a' v.down.list.length cap']) /\ RV (As w.heap.size w') (Ad v.down.kind v.down.text v.down.int v.down.real v.down.flag a' v.down.list.length cap') v.down /\ Below w.heap.size w w'
set_option maxRecDepth 100000 in
set_option maxHeartbeats 3200000 in
theorem down_9 {v : V} {t : ByteArray} {i : Int} {r : Nat} {f : Bool} {a : Option Addr} {n cap : Nat} {d : Int} {w : World} (hp : DownH v 9 t i r f a n cap d w) :
   Calls Tryz.prog 31 #[.agg #[.int .i64 9, .string t, .int .i64 i, .float .f64 r, .bool f, .slice a n cap]] w (Bx v w) := by
 obtain ⟨ek, et, ei, er, ef, en⟩ := hp.val.len
 have hra := (V.ranged_eq v).1 hp.ranged
 have hLv := hp.laid
 obtain ⟨W2, hW2⟩ : ∃ W2, W2 = (w.alloc (.cells #[.int .i64 9, .string t, .int .i64 i, .float .f64 r, .bool f, .slice a n cap] 26)).alloc (.cells #[.int .i64 0, .string ⟨#[]⟩, .int .i64 0, .float .f64 0, .bool false, .slice none 0 0] 26) := ⟨_, rfl⟩
 have hb2 : Below w.heap.size w W2 := by rw [hW2]; exact ((Below.refl _ _).alloc (Nat.le_refl _) _).alloc (by simp) _
 have hs2 : W2.heap.size = w.heap.size + 2 := by rw [hW2]; simp
 have hB : ∀ q u, #[.int .i64 9, .string t, .int .i64 i, .float .f64 r, .bool f, .slice a n cap][q]? = some u -> W2.cell? ⟨w.heap.size, q, none⟩ = some u := fun q u h => by rw [hW2, World.cell?_alloc_past _ _ _ (by simp), World.cell?_alloc_new]; exact h
 have hrC : W2.rangeAt (w.heap.size + 1) 0 [.int .i64 0, .string ⟨#[]⟩, .int .i64 0, .float .f64 0, .bool false, .slice none 0 0] := fun q u h => by
   rw [Nat.zero_add, hW2, show w.heap.size + 1 = (w.alloc (.cells #[.int .i64 9, .string t, .int .i64 i, .float .f64 r, .bool f, .slice a n cap] 26)).heap.size by simp, World.cell?_alloc_new]; simpa using h
 have hfC : Blk W2 (w.heap.size + 1) := by rw [hW2, show w.heap.size + 1 = (w.alloc (.cells #[.int .i64 9, .string t, .int .i64 i, .float .f64 r, .bool f, .slice a n cap] 26)).heap.size by simp]; exact Blk.new _ _ _
 have hcl := hfC.lt
 have e0 := hB 0 _ rfl
 have e1 := hB 1 _ rfl
 have e2 := hB 2 _ rfl
 have e3 := hB 3 _ rfl
 have e4 := hB 4 _ rfl
 have e5 := hB 5 _ rfl
 clear hB
 replace hW2 := Hd hW2
 replace hb2 := Hd hb2
 replace hs2 := Hd hs2
 replace hrC := Hd hrC
 replace hfC := Hd hfC
 replace ek := Hd ek
 replace et := Hd et
 replace ei := Hd ei
 replace er := Hd er
 replace ef := Hd ef
 replace en := Hd en
 replace hra := Hd hra
 replace hLv := Hd hLv
 replace hp := Hd hp
 go_enter Tryz.func31, Tryz.ntmps31
 go_upto_region 1 with fail
 rw [<- hW2.out]
 have hdn : v.down = .mk 4 t 0 0 false [] := by rw [V.down_eq, <- ek.out, et.out]; rfl
 replace hdn := Hd hdn
 have hre := Below.refl W2.heap.size W2
 have htC := A0 (n := 6) (Ab hre hrC.out) (hfC.out.of_block (hre.block (w.heap.size + 1) hcl)) rfl
 have hsW := hre.size
 replace htC := Hd htC
 go_wp2_with (refine wpList_store_mid rfl 26 _ _ rfl (w.heap.size + 1) 0 _ rfl rfl htC.out Af (one6 _ _ _ _ _ _ _ _) ?_)
 have hrR : (W2.setCells (w.heap.size + 1) 0 [.int .i64 4, .string t, .int .i64 0, .float .f64 0, .bool false, .slice none 0 0]).rangeAt (w.heap.size + 1) 0 [.int .i64 4, .string t, .int .i64 0, .float .f64 0, .bool false, .slice none 0 0] := World.rangeAt_setCells_same _ _ _ _ htC.out
 refine bodyPost_ret (Am (v := .agg #[.int .i64 4, .string t, .int .i64 0, .float .f64 0, .bool false, .slice none 0 0]) rfl rfl (run_loadVar_mid (P := Tryz.prog) _ _ 0 26 _ _ hrR Tryz.underlying26 rfl Af)) rfl ?_
 have hfin : Below w.heap.size W2 (W2.setCells (w.heap.size + 1) 0 [.int .i64 4, .string t, .int .i64 0, .float .f64 0, .bool false, .slice none 0 0]) := (Fr.setCells (S := fun k => k = w.heap.size + 1) (fun _ => rfl) _ _ _ (Fr.refl _ W2)).below (by have := hs2.out; omega) (fun j hj e => by omega)
 exact ⟨none, 0, by rw [hdn.out]; rfl, by rw [hdn.out]; exact RV.leaf _ _ _ _ _ _ _ _, (hb2.out.trans (hre.mono (by have := hs2.out; omega))).trans hfin⟩
set_option maxRecDepth 100000 in
set_option maxHeartbeats 3200000 in
theorem down_8 {v : V} {t : ByteArray} {i : Int} {r : Nat} {f : Bool} {a : Option Addr} {n cap : Nat} {d : Int} {w : World} (hp : DownH v 8 t i r f a n cap d w) :
   Calls Tryz.prog 31 #[.agg #[.int .i64 8, .string t, .int .i64 i, .float .f64 r, .bool f, .slice a n cap]] w (Bx v w) := by
 obtain ⟨ek, et, ei, er, ef, en⟩ := hp.val.len
 have hra := (V.ranged_eq v).1 hp.ranged
 have hLv := hp.laid
 obtain ⟨W2, hW2⟩ : ∃ W2, W2 = (w.alloc (.cells #[.int .i64 8, .string t, .int .i64 i, .float .f64 r, .bool f, .slice a n cap] 26)).alloc (.cells #[.int .i64 0, .string ⟨#[]⟩, .int .i64 0, .float .f64 0, .bool false, .slice none 0 0] 26) := ⟨_, rfl⟩
 have hb2 : Below w.heap.size w W2 := by rw [hW2]; exact ((Below.refl _ _).alloc (Nat.le_refl _) _).alloc (by simp) _
 have hs2 : W2.heap.size = w.heap.size + 2 := by rw [hW2]; simp
 have hB : ∀ q u, #[.int .i64 8, .string t, .int .i64 i, .float .f64 r, .bool f, .slice a n cap][q]? = some u -> W2.cell? ⟨w.heap.size, q, none⟩ = some u := fun q u h => by rw [hW2, World.cell?_alloc_past _ _ _ (by simp), World.cell?_alloc_new]; exact h
 have hrC : W2.rangeAt (w.heap.size + 1) 0 [.int .i64 0, .string ⟨#[]⟩, .int .i64 0, .float .f64 0, .bool false, .slice none 0 0] := fun q u h => by
   rw [Nat.zero_add, hW2, show w.heap.size + 1 = (w.alloc (.cells #[.int .i64 8, .string t, .int .i64 i, .float .f64 r, .bool f, .slice a n cap] 26)).heap.size by simp, World.cell?_alloc_new]; simpa using h
 have hfC : Blk W2 (w.heap.size + 1) := by rw [hW2, show w.heap.size + 1 = (w.alloc (.cells #[.int .i64 8, .string t, .int .i64 i, .float .f64 r, .bool f, .slice a n cap] 26)).heap.size by simp]; exact Blk.new _ _ _
 have hcl := hfC.lt
 have e0 := hB 0 _ rfl
 have e1 := hB 1 _ rfl
 have e2 := hB 2 _ rfl
 have e3 := hB 3 _ rfl
 have e4 := hB 4 _ rfl
 have e5 := hB 5 _ rfl
 clear hB
 replace hW2 := Hd hW2
 replace hb2 := Hd hb2
 replace hs2 := Hd hs2
 replace hrC := Hd hrC
 replace hfC := Hd hfC
 replace ek := Hd ek
 replace et := Hd et
 replace ei := Hd ei
 replace er := Hd er
 replace ef := Hd ef
 replace en := Hd en
 replace hra := Hd hra
 replace hLv := Hd hLv
 replace hp := Hd hp
 go_enter Tryz.func31, Tryz.ntmps31
 go_upto_region 1 with fail
 rw [<- hW2.out]
 have hdn : v.down = .mk 3 ⟨#[]⟩ (if f then 1 else 0) 0 false [] := by rw [V.down_eq, <- ek.out, ef.out]; rfl
 have hre := Below.refl W2.heap.size W2
 cases f
 · replace hdn : v.down = .mk 3 ⟨#[]⟩ 0 0 false [] := hdn
   replace hdn := Hd hdn
   have htC := A0 (n := 6) (Ab hre hrC.out) (hfC.out.of_block (hre.block (w.heap.size + 1) hcl)) rfl
   have hsW := hre.size
   replace htC := Hd htC
   go_wp2_with (refine wpList_store_mid rfl 26 _ _ rfl (w.heap.size + 1) 0 _ rfl rfl htC.out Af (one6 _ _ _ _ _ _ _ _) ?_)
   have hrR : (W2.setCells (w.heap.size + 1) 0 [.int .i64 3, .string (⟨#[]⟩ : ByteArray), .int .i64 0, .float .f64 0, .bool false, .slice none 0 0]).rangeAt (w.heap.size + 1) 0 [.int .i64 3, .string (⟨#[]⟩ : ByteArray), .int .i64 0, .float .f64 0, .bool false, .slice none 0 0] := World.rangeAt_setCells_same _ _ _ _ htC.out
   refine bodyPost_ret (Am (v := .agg #[.int .i64 3, .string (⟨#[]⟩ : ByteArray), .int .i64 0, .float .f64 0, .bool false, .slice none 0 0]) rfl rfl (run_loadVar_mid (P := Tryz.prog) _ _ 0 26 _ _ hrR Tryz.underlying26 rfl Af)) rfl ?_
   have hfin : Below w.heap.size W2 (W2.setCells (w.heap.size + 1) 0 [.int .i64 3, .string (⟨#[]⟩ : ByteArray), .int .i64 0, .float .f64 0, .bool false, .slice none 0 0]) := (Fr.setCells (S := fun k => k = w.heap.size + 1) (fun _ => rfl) _ _ _ (Fr.refl _ W2)).below (by have := hs2.out; omega) (fun j hj e => by omega)
   exact ⟨none, 0, by rw [hdn.out]; rfl, by rw [hdn.out]; exact RV.leaf _ _ _ _ _ _ _ _, (hb2.out.trans (hre.mono (by have := hs2.out; omega))).trans hfin⟩
 · replace hdn : v.down = .mk 3 ⟨#[]⟩ 1 0 false [] := hdn
   replace hdn := Hd hdn
   have htC := A0 (n := 6) (Ab hre hrC.out) (hfC.out.of_block (hre.block (w.heap.size + 1) hcl)) rfl
   have hsW := hre.size
   replace htC := Hd htC
   go_wp2_with (refine wpList_store_mid rfl 26 _ _ rfl (w.heap.size + 1) 0 _ rfl rfl htC.out Af (one6 _ _ _ _ _ _ _ _) ?_)
   have hrR : (W2.setCells (w.heap.size + 1) 0 [.int .i64 3, .string (⟨#[]⟩ : ByteArray), .int .i64 1, .float .f64 0, .bool false, .slice none 0 0]).rangeAt (w.heap.size + 1) 0 [.int .i64 3, .string (⟨#[]⟩ : ByteArray), .int .i64 1, .float .f64 0, .bool false, .slice none 0 0] := World.rangeAt_setCells_same _ _ _ _ htC.out
   refine bodyPost_ret (Am (v := .agg #[.int .i64 3, .string (⟨#[]⟩ : ByteArray), .int .i64 1, .float .f64 0, .bool false, .slice none 0 0]) rfl rfl (run_loadVar_mid (P := Tryz.prog) _ _ 0 26 _ _ hrR Tryz.underlying26 rfl Af)) rfl ?_
   have hfin : Below w.heap.size W2 (W2.setCells (w.heap.size + 1) 0 [.int .i64 3, .string (⟨#[]⟩ : ByteArray), .int .i64 1, .float .f64 0, .bool false, .slice none 0 0]) := (Fr.setCells (S := fun k => k = w.heap.size + 1) (fun _ => rfl) _ _ _ (Fr.refl _ W2)).below (by have := hs2.out; omega) (fun j hj e => by omega)
   exact ⟨none, 0, by rw [hdn.out]; rfl, by rw [hdn.out]; exact RV.leaf _ _ _ _ _ _ _ _, (hb2.out.trans (hre.mono (by have := hs2.out; omega))).trans hfin⟩
set_option maxRecDepth 100000 in
set_option maxHeartbeats 3200000 in
theorem down_7 {v : V} {t : ByteArray} {i : Int} {r : Nat} {f : Bool} {a : Option Addr} {n cap : Nat} {d : Int} {w : World} (hp : DownH v 7 t i r f a n cap d w) :
   Calls Tryz.prog 31 #[.agg #[.int .i64 7, .string t, .int .i64 i, .float .f64 r, .bool f, .slice a n cap]] w (Bx v w) := by
 obtain ⟨ek, et, ei, er, ef, en⟩ := hp.val.len
 have hra := (V.ranged_eq v).1 hp.ranged
 have hLv := hp.laid
 obtain ⟨W2, hW2⟩ : ∃ W2, W2 = (w.alloc (.cells #[.int .i64 7, .string t, .int .i64 i, .float .f64 r, .bool f, .slice a n cap] 26)).alloc (.cells #[.int .i64 0, .string ⟨#[]⟩, .int .i64 0, .float .f64 0, .bool false, .slice none 0 0] 26) := ⟨_, rfl⟩
 have hb2 : Below w.heap.size w W2 := by rw [hW2]; exact ((Below.refl _ _).alloc (Nat.le_refl _) _).alloc (by simp) _
 have hs2 : W2.heap.size = w.heap.size + 2 := by rw [hW2]; simp
 have hB : ∀ q u, #[.int .i64 7, .string t, .int .i64 i, .float .f64 r, .bool f, .slice a n cap][q]? = some u -> W2.cell? ⟨w.heap.size, q, none⟩ = some u := fun q u h => by rw [hW2, World.cell?_alloc_past _ _ _ (by simp), World.cell?_alloc_new]; exact h
 have hrC : W2.rangeAt (w.heap.size + 1) 0 [.int .i64 0, .string ⟨#[]⟩, .int .i64 0, .float .f64 0, .bool false, .slice none 0 0] := fun q u h => by
   rw [Nat.zero_add, hW2, show w.heap.size + 1 = (w.alloc (.cells #[.int .i64 7, .string t, .int .i64 i, .float .f64 r, .bool f, .slice a n cap] 26)).heap.size by simp, World.cell?_alloc_new]; simpa using h
 have hfC : Blk W2 (w.heap.size + 1) := by rw [hW2, show w.heap.size + 1 = (w.alloc (.cells #[.int .i64 7, .string t, .int .i64 i, .float .f64 r, .bool f, .slice a n cap] 26)).heap.size by simp]; exact Blk.new _ _ _
 have hcl := hfC.lt
 have e0 := hB 0 _ rfl
 have e1 := hB 1 _ rfl
 have e2 := hB 2 _ rfl
 have e3 := hB 3 _ rfl
 have e4 := hB 4 _ rfl
 have e5 := hB 5 _ rfl
 clear hB
 replace hW2 := Hd hW2
 replace hb2 := Hd hb2
 replace hs2 := Hd hs2
 replace hrC := Hd hrC
 replace hfC := Hd hfC
 replace ek := Hd ek
 replace et := Hd et
 replace ei := Hd ei
 replace er := Hd er
 replace ef := Hd ef
 replace en := Hd en
 replace hra := Hd hra
 replace hLv := Hd hLv
 replace hp := Hd hp
 go_enter Tryz.func31, Tryz.ntmps31
 go_upto_region 1 with fail
 rw [<- hW2.out]
 have hdn : v.down = .mk 4 ⟨(Bh r).toArray⟩ 0 0 false [] := by rw [V.down_eq, <- ek.out, er.out]; rfl
 have hF : Flo W2 := (hLv.out.below hb2.out (Nat.le_refl _)).isFlo
 have hr9 : r < 18446744073709551616 := by rw [er.out]; exact hra.out.2.2.1
 replace hdn := Hd hdn
 go_wp2_with fail
 refine (Eg hr9 hF).mono ?_
 rintro e w3 ⟨t3, rfl, ht3, hb3⟩
 have et3 : t3 = ⟨(Bh r).toArray⟩ := by rw [<- ht3]
 subst et3
 clear ht3 hF hr9
 have htC := A0 (n := 6) (Ab hb3 hrC.out) (hfC.out.of_block (hb3.block (w.heap.size + 1) hcl)) rfl
 have hsW := hb3.size
 replace htC := Hd htC
 go_wp2_with (refine wpList_store_mid rfl 26 _ _ rfl (w.heap.size + 1) 0 _ rfl rfl htC.out Af (one6 _ _ _ _ _ _ _ _) ?_)
 have hrR : (w3.setCells (w.heap.size + 1) 0 [.int .i64 4, .string (⟨(Bh r).toArray⟩ : ByteArray), .int .i64 0, .float .f64 0, .bool false, .slice none 0 0]).rangeAt (w.heap.size + 1) 0 [.int .i64 4, .string (⟨(Bh r).toArray⟩ : ByteArray), .int .i64 0, .float .f64 0, .bool false, .slice none 0 0] := World.rangeAt_setCells_same _ _ _ _ htC.out
 refine bodyPost_ret (Am (v := .agg #[.int .i64 4, .string (⟨(Bh r).toArray⟩ : ByteArray), .int .i64 0, .float .f64 0, .bool false, .slice none 0 0]) rfl rfl (run_loadVar_mid (P := Tryz.prog) _ _ 0 26 _ _ hrR Tryz.underlying26 rfl Af)) rfl ?_
 have hfin : Below w.heap.size w3 (w3.setCells (w.heap.size + 1) 0 [.int .i64 4, .string (⟨(Bh r).toArray⟩ : ByteArray), .int .i64 0, .float .f64 0, .bool false, .slice none 0 0]) := (Fr.setCells (S := fun k => k = w.heap.size + 1) (fun _ => rfl) _ _ _ (Fr.refl _ w3)).below (by have := hs2.out; omega) (fun j hj e => by omega)
 exact ⟨none, 0, by rw [hdn.out]; rfl, by rw [hdn.out]; exact RV.leaf _ _ _ _ _ _ _ _, (hb2.out.trans (hb3.mono (by have := hs2.out; omega))).trans hfin⟩
set_option maxRecDepth 100000 in
set_option maxHeartbeats 3200000 in
theorem down_1 {v : V} {t : ByteArray} {i : Int} {r : Nat} {f : Bool} {a : Option Addr} {n cap : Nat} {d : Int} {w : World} (hp : DownH v 1 t i r f a n cap d w) :
   Calls Tryz.prog 31 #[.agg #[.int .i64 1, .string t, .int .i64 i, .float .f64 r, .bool f, .slice a n cap]] w (Bx v w) := by
 obtain ⟨ek, et, ei, er, ef, en⟩ := hp.val.len
 have hra := (V.ranged_eq v).1 hp.ranged
 have hLv := hp.laid
 obtain ⟨W2, hW2⟩ : ∃ W2, W2 = (w.alloc (.cells #[.int .i64 1, .string t, .int .i64 i, .float .f64 r, .bool f, .slice a n cap] 26)).alloc (.cells #[.int .i64 0, .string ⟨#[]⟩, .int .i64 0, .float .f64 0, .bool false, .slice none 0 0] 26) := ⟨_, rfl⟩
 have hb2 : Below w.heap.size w W2 := by rw [hW2]; exact ((Below.refl _ _).alloc (Nat.le_refl _) _).alloc (by simp) _
 have hs2 : W2.heap.size = w.heap.size + 2 := by rw [hW2]; simp
 have hB : ∀ q u, #[.int .i64 1, .string t, .int .i64 i, .float .f64 r, .bool f, .slice a n cap][q]? = some u -> W2.cell? ⟨w.heap.size, q, none⟩ = some u := fun q u h => by rw [hW2, World.cell?_alloc_past _ _ _ (by simp), World.cell?_alloc_new]; exact h
 have hrC : W2.rangeAt (w.heap.size + 1) 0 [.int .i64 0, .string ⟨#[]⟩, .int .i64 0, .float .f64 0, .bool false, .slice none 0 0] := fun q u h => by
   rw [Nat.zero_add, hW2, show w.heap.size + 1 = (w.alloc (.cells #[.int .i64 1, .string t, .int .i64 i, .float .f64 r, .bool f, .slice a n cap] 26)).heap.size by simp, World.cell?_alloc_new]; simpa using h
 have hfC : Blk W2 (w.heap.size + 1) := by rw [hW2, show w.heap.size + 1 = (w.alloc (.cells #[.int .i64 1, .string t, .int .i64 i, .float .f64 r, .bool f, .slice a n cap] 26)).heap.size by simp]; exact Blk.new _ _ _
 have hcl := hfC.lt
 have e0 := hB 0 _ rfl
 have e1 := hB 1 _ rfl
 have e2 := hB 2 _ rfl
 have e3 := hB 3 _ rfl
 have e4 := hB 4 _ rfl
 have e5 := hB 5 _ rfl
 clear hB
 replace hW2 := Hd hW2
 replace hb2 := Hd hb2
 replace hs2 := Hd hs2
 replace hrC := Hd hrC
 replace hfC := Hd hfC
 replace ek := Hd ek
 replace et := Hd et
 replace ei := Hd ei
 replace er := Hd er
 replace ef := Hd ef
 replace en := Hd en
 replace hra := Hd hra
 replace hLv := Hd hLv
 replace hp := Hd hp
 go_enter Tryz.func31, Tryz.ntmps31
 go_upto_region 1 with fail
 rw [<- hW2.out]
 have hdn : v.down = v := by
   rw [V.down_eq, <- ek.out]; rfl
 have hvl : v.list = [] := (Ao (by have := hp.out.fine; rw [V.fine_eq, Bool.and_eq_true, Bool.and_eq_true] at this; exact this.1.1)).list (by rw [<- ek.out]; decide)
 have hv6 : v = .mk 1 t i r f [] := by
   have h1 := ek.out
   have h2 := et.out
   have h3 := ei.out
   have h4 := er.out
   have h5 := ef.out
   cases v
   simp only [V.kind, V.text, V.int, V.real, V.flag, V.list] at h1 h2 h3 h4 h5 hvl
   subst h1 h2 h3 h4 h5 hvl
   rfl
 have hn0 : n = 0 := by rw [en.out, hvl]; rfl
 replace hdn := Hd hdn
 replace hv6 := Hd hv6
 replace hvl := Hd hvl
 have hrA : W2.rangeAt w.heap.size 0 [.int .i64 1, .string t, .int .i64 i, .float .f64 r, .bool f, .slice a n cap] := A9 e0 e1 e2 e3 e4 e5
 have htC := A0 (n := 6) hrC.out hfC.out rfl
 replace htC := Hd htC
 replace hrA := Hd hrA
 clear e1 e2 e3 e4 e5
 go_wp2_with (first
   | (refine wpList_load_mid rfl 26 _ rfl w.heap.size 0 rfl _ _ hrA.out Tryz.underlying26 rfl Af ?_)
   | (refine wpList_store_mid rfl 26 _ _ rfl (w.heap.size + 1) 0 _ rfl rfl htC.out Af (one6 _ _ _ _ _ _ _ _) ?_))
 have hrR : (W2.setCells (w.heap.size + 1) 0 [.int .i64 1, .string t, .int .i64 i, .float .f64 r, .bool f, .slice a n cap]).rangeAt (w.heap.size + 1) 0 [.int .i64 1, .string t, .int .i64 i, .float .f64 r, .bool f, .slice a n cap] := World.rangeAt_setCells_same _ _ _ _ htC.out
 refine bodyPost_ret (Am (v := .agg #[.int .i64 1, .string t, .int .i64 i, .float .f64 r, .bool f, .slice a n cap]) rfl rfl (run_loadVar_mid (P := Tryz.prog) _ _ 0 26 _ _ hrR Tryz.underlying26 rfl Af)) rfl ?_
 have hfin : Below w.heap.size W2 (W2.setCells (w.heap.size + 1) 0 [.int .i64 1, .string t, .int .i64 i, .float .f64 r, .bool f, .slice a n cap]) := (Fr.setCells (S := fun k => k = w.heap.size + 1) (fun _ => rfl) _ _ _ (Fr.refl _ W2)).below (by have := hs2.out; omega) (fun j hj e => by omega)
 subst hn0
 refine ⟨a, cap, by rw [hdn.out, hv6.out]; rfl, ?_, hb2.out.trans hfin⟩
 rw [hdn.out, hv6.out]; exact RV.leaf _ _ _ _ _ _ _ _
set_option maxRecDepth 100000 in
set_option maxHeartbeats 3200000 in
theorem down_2 {v : V} {t : ByteArray} {i : Int} {r : Nat} {f : Bool} {a : Option Addr} {n cap : Nat} {d : Int} {w : World} (hp : DownH v 2 t i r f a n cap d w) :
   Calls Tryz.prog 31 #[.agg #[.int .i64 2, .string t, .int .i64 i, .float .f64 r, .bool f, .slice a n cap]] w (Bx v w) := by
 obtain ⟨ek, et, ei, er, ef, en⟩ := hp.val.len
 have hra := (V.ranged_eq v).1 hp.ranged
 have hLv := hp.laid
 obtain ⟨W2, hW2⟩ : ∃ W2, W2 = (w.alloc (.cells #[.int .i64 2, .string t, .int .i64 i, .float .f64 r, .bool f, .slice a n cap] 26)).alloc (.cells #[.int .i64 0, .string ⟨#[]⟩, .int .i64 0, .float .f64 0, .bool false, .slice none 0 0] 26) := ⟨_, rfl⟩
 have hb2 : Below w.heap.size w W2 := by rw [hW2]; exact ((Below.refl _ _).alloc (Nat.le_refl _) _).alloc (by simp) _
 have hs2 : W2.heap.size = w.heap.size + 2 := by rw [hW2]; simp
 have hB : ∀ q u, #[.int .i64 2, .string t, .int .i64 i, .float .f64 r, .bool f, .slice a n cap][q]? = some u -> W2.cell? ⟨w.heap.size, q, none⟩ = some u := fun q u h => by rw [hW2, World.cell?_alloc_past _ _ _ (by simp), World.cell?_alloc_new]; exact h
 have hrC : W2.rangeAt (w.heap.size + 1) 0 [.int .i64 0, .string ⟨#[]⟩, .int .i64 0, .float .f64 0, .bool false, .slice none 0 0] := fun q u h => by
   rw [Nat.zero_add, hW2, show w.heap.size + 1 = (w.alloc (.cells #[.int .i64 2, .string t, .int .i64 i, .float .f64 r, .bool f, .slice a n cap] 26)).heap.size by simp, World.cell?_alloc_new]; simpa using h
 have hfC : Blk W2 (w.heap.size + 1) := by rw [hW2, show w.heap.size + 1 = (w.alloc (.cells #[.int .i64 2, .string t, .int .i64 i, .float .f64 r, .bool f, .slice a n cap] 26)).heap.size by simp]; exact Blk.new _ _ _
 have hcl := hfC.lt
 have e0 := hB 0 _ rfl
 have e1 := hB 1 _ rfl
 have e2 := hB 2 _ rfl
 have e3 := hB 3 _ rfl
 have e4 := hB 4 _ rfl
 have e5 := hB 5 _ rfl
 clear hB
 replace hW2 := Hd hW2
 replace hb2 := Hd hb2
 replace hs2 := Hd hs2
 replace hrC := Hd hrC
 replace hfC := Hd hfC
 replace ek := Hd ek
 replace et := Hd et
 replace ei := Hd ei
 replace er := Hd er
 replace ef := Hd ef
 replace en := Hd en
 replace hra := Hd hra
 replace hLv := Hd hLv
 replace hp := Hd hp
 go_enter Tryz.func31, Tryz.ntmps31
 go_upto_region 1 with fail
 rw [<- hW2.out]
 have hdn : v.down = v := by
   rw [V.down_eq, <- ek.out]; rfl
 have hvl : v.list = [] := (Ao (by have := hp.out.fine; rw [V.fine_eq, Bool.and_eq_true, Bool.and_eq_true] at this; exact this.1.1)).list (by rw [<- ek.out]; decide)
 have hv6 : v = .mk 2 t i r f [] := by
   have h1 := ek.out
   have h2 := et.out
   have h3 := ei.out
   have h4 := er.out
   have h5 := ef.out
   cases v
   simp only [V.kind, V.text, V.int, V.real, V.flag, V.list] at h1 h2 h3 h4 h5 hvl
   subst h1 h2 h3 h4 h5 hvl
   rfl
 have hn0 : n = 0 := by rw [en.out, hvl]; rfl
 replace hdn := Hd hdn
 replace hv6 := Hd hv6
 replace hvl := Hd hvl
 have hrA : W2.rangeAt w.heap.size 0 [.int .i64 2, .string t, .int .i64 i, .float .f64 r, .bool f, .slice a n cap] := A9 e0 e1 e2 e3 e4 e5
 have htC := A0 (n := 6) hrC.out hfC.out rfl
 replace htC := Hd htC
 replace hrA := Hd hrA
 clear e1 e2 e3 e4 e5
 go_wp2_with (first
   | (refine wpList_load_mid rfl 26 _ rfl w.heap.size 0 rfl _ _ hrA.out Tryz.underlying26 rfl Af ?_)
   | (refine wpList_store_mid rfl 26 _ _ rfl (w.heap.size + 1) 0 _ rfl rfl htC.out Af (one6 _ _ _ _ _ _ _ _) ?_))
 have hrR : (W2.setCells (w.heap.size + 1) 0 [.int .i64 2, .string t, .int .i64 i, .float .f64 r, .bool f, .slice a n cap]).rangeAt (w.heap.size + 1) 0 [.int .i64 2, .string t, .int .i64 i, .float .f64 r, .bool f, .slice a n cap] := World.rangeAt_setCells_same _ _ _ _ htC.out
 refine bodyPost_ret (Am (v := .agg #[.int .i64 2, .string t, .int .i64 i, .float .f64 r, .bool f, .slice a n cap]) rfl rfl (run_loadVar_mid (P := Tryz.prog) _ _ 0 26 _ _ hrR Tryz.underlying26 rfl Af)) rfl ?_
 have hfin : Below w.heap.size W2 (W2.setCells (w.heap.size + 1) 0 [.int .i64 2, .string t, .int .i64 i, .float .f64 r, .bool f, .slice a n cap]) := (Fr.setCells (S := fun k => k = w.heap.size + 1) (fun _ => rfl) _ _ _ (Fr.refl _ W2)).below (by have := hs2.out; omega) (fun j hj e => by omega)
 subst hn0
 refine ⟨a, cap, by rw [hdn.out, hv6.out]; rfl, ?_, hb2.out.trans hfin⟩
 rw [hdn.out, hv6.out]; exact RV.leaf _ _ _ _ _ _ _ _
set_option maxRecDepth 100000 in
set_option maxHeartbeats 3200000 in
theorem down_3 {v : V} {t : ByteArray} {i : Int} {r : Nat} {f : Bool} {a : Option Addr} {n cap : Nat} {d : Int} {w : World} (hp : DownH v 3 t i r f a n cap d w) :
   Calls Tryz.prog 31 #[.agg #[.int .i64 3, .string t, .int .i64 i, .float .f64 r, .bool f, .slice a n cap]] w (Bx v w) := by
 obtain ⟨ek, et, ei, er, ef, en⟩ := hp.val.len
 have hra := (V.ranged_eq v).1 hp.ranged
 have hLv := hp.laid
 obtain ⟨W2, hW2⟩ : ∃ W2, W2 = (w.alloc (.cells #[.int .i64 3, .string t, .int .i64 i, .float .f64 r, .bool f, .slice a n cap] 26)).alloc (.cells #[.int .i64 0, .string ⟨#[]⟩, .int .i64 0, .float .f64 0, .bool false, .slice none 0 0] 26) := ⟨_, rfl⟩
 have hb2 : Below w.heap.size w W2 := by rw [hW2]; exact ((Below.refl _ _).alloc (Nat.le_refl _) _).alloc (by simp) _
 have hs2 : W2.heap.size = w.heap.size + 2 := by rw [hW2]; simp
 have hB : ∀ q u, #[.int .i64 3, .string t, .int .i64 i, .float .f64 r, .bool f, .slice a n cap][q]? = some u -> W2.cell? ⟨w.heap.size, q, none⟩ = some u := fun q u h => by rw [hW2, World.cell?_alloc_past _ _ _ (by simp), World.cell?_alloc_new]; exact h
 have hrC : W2.rangeAt (w.heap.size + 1) 0 [.int .i64 0, .string ⟨#[]⟩, .int .i64 0, .float .f64 0, .bool false, .slice none 0 0] := fun q u h => by
   rw [Nat.zero_add, hW2, show w.heap.size + 1 = (w.alloc (.cells #[.int .i64 3, .string t, .int .i64 i, .float .f64 r, .bool f, .slice a n cap] 26)).heap.size by simp, World.cell?_alloc_new]; simpa using h
 have hfC : Blk W2 (w.heap.size + 1) := by rw [hW2, show w.heap.size + 1 = (w.alloc (.cells #[.int .i64 3, .string t, .int .i64 i, .float .f64 r, .bool f, .slice a n cap] 26)).heap.size by simp]; exact Blk.new _ _ _
 have hcl := hfC.lt
 have e0 := hB 0 _ rfl
 have e1 := hB 1 _ rfl
 have e2 := hB 2 _ rfl
 have e3 := hB 3 _ rfl
 have e4 := hB 4 _ rfl
 have e5 := hB 5 _ rfl
 clear hB
 replace hW2 := Hd hW2
 replace hb2 := Hd hb2
 replace hs2 := Hd hs2
 replace hrC := Hd hrC
 replace hfC := Hd hfC
 replace ek := Hd ek
 replace et := Hd et
 replace ei := Hd ei
 replace er := Hd er
 replace ef := Hd ef
 replace en := Hd en
 replace hra := Hd hra
 replace hLv := Hd hLv
 replace hp := Hd hp
 go_enter Tryz.func31, Tryz.ntmps31
 go_upto_region 1 with fail
 rw [<- hW2.out]
 have hdn : v.down = v := by
   rw [V.down_eq, <- ek.out]; rfl
 have hvl : v.list = [] := (Ao (by have := hp.out.fine; rw [V.fine_eq, Bool.and_eq_true, Bool.and_eq_true] at this; exact this.1.1)).list (by rw [<- ek.out]; decide)
 have hv6 : v = .mk 3 t i r f [] := by
   have h1 := ek.out
   have h2 := et.out
   have h3 := ei.out
   have h4 := er.out
   have h5 := ef.out
   cases v
   simp only [V.kind, V.text, V.int, V.real, V.flag, V.list] at h1 h2 h3 h4 h5 hvl
   subst h1 h2 h3 h4 h5 hvl
   rfl
 have hn0 : n = 0 := by rw [en.out, hvl]; rfl
 replace hdn := Hd hdn
 replace hv6 := Hd hv6
 replace hvl := Hd hvl
 have hrA : W2.rangeAt w.heap.size 0 [.int .i64 3, .string t, .int .i64 i, .float .f64 r, .bool f, .slice a n cap] := A9 e0 e1 e2 e3 e4 e5
 have htC := A0 (n := 6) hrC.out hfC.out rfl
 replace htC := Hd htC
 replace hrA := Hd hrA
 clear e1 e2 e3 e4 e5
 go_wp2_with (first
   | (refine wpList_load_mid rfl 26 _ rfl w.heap.size 0 rfl _ _ hrA.out Tryz.underlying26 rfl Af ?_)
   | (refine wpList_store_mid rfl 26 _ _ rfl (w.heap.size + 1) 0 _ rfl rfl htC.out Af (one6 _ _ _ _ _ _ _ _) ?_))
 have hrR : (W2.setCells (w.heap.size + 1) 0 [.int .i64 3, .string t, .int .i64 i, .float .f64 r, .bool f, .slice a n cap]).rangeAt (w.heap.size + 1) 0 [.int .i64 3, .string t, .int .i64 i, .float .f64 r, .bool f, .slice a n cap] := World.rangeAt_setCells_same _ _ _ _ htC.out
 refine bodyPost_ret (Am (v := .agg #[.int .i64 3, .string t, .int .i64 i, .float .f64 r, .bool f, .slice a n cap]) rfl rfl (run_loadVar_mid (P := Tryz.prog) _ _ 0 26 _ _ hrR Tryz.underlying26 rfl Af)) rfl ?_
 have hfin : Below w.heap.size W2 (W2.setCells (w.heap.size + 1) 0 [.int .i64 3, .string t, .int .i64 i, .float .f64 r, .bool f, .slice a n cap]) := (Fr.setCells (S := fun k => k = w.heap.size + 1) (fun _ => rfl) _ _ _ (Fr.refl _ W2)).below (by have := hs2.out; omega) (fun j hj e => by omega)
 subst hn0
 refine ⟨a, cap, by rw [hdn.out, hv6.out]; rfl, ?_, hb2.out.trans hfin⟩
 rw [hdn.out, hv6.out]; exact RV.leaf _ _ _ _ _ _ _ _
set_option maxRecDepth 100000 in
set_option maxHeartbeats 3200000 in
theorem down_4 {v : V} {t : ByteArray} {i : Int} {r : Nat} {f : Bool} {a : Option Addr} {n cap : Nat} {d : Int} {w : World} (hp : DownH v 4 t i r f a n cap d w) :
   Calls Tryz.prog 31 #[.agg #[.int .i64 4, .string t, .int .i64 i, .float .f64 r, .bool f, .slice a n cap]] w (Bx v w) := by
 obtain ⟨ek, et, ei, er, ef, en⟩ := hp.val.len
 have hra := (V.ranged_eq v).1 hp.ranged
 have hLv := hp.laid
 obtain ⟨W2, hW2⟩ : ∃ W2, W2 = (w.alloc (.cells #[.int .i64 4, .string t, .int .i64 i, .float .f64 r, .bool f, .slice a n cap] 26)).alloc (.cells #[.int .i64 0, .string ⟨#[]⟩, .int .i64 0, .float .f64 0, .bool false, .slice none 0 0] 26) := ⟨_, rfl⟩
 have hb2 : Below w.heap.size w W2 := by rw [hW2]; exact ((Below.refl _ _).alloc (Nat.le_refl _) _).alloc (by simp) _
 have hs2 : W2.heap.size = w.heap.size + 2 := by rw [hW2]; simp
 have hB : ∀ q u, #[.int .i64 4, .string t, .int .i64 i, .float .f64 r, .bool f, .slice a n cap][q]? = some u -> W2.cell? ⟨w.heap.size, q, none⟩ = some u := fun q u h => by rw [hW2, World.cell?_alloc_past _ _ _ (by simp), World.cell?_alloc_new]; exact h
 have hrC : W2.rangeAt (w.heap.size + 1) 0 [.int .i64 0, .string ⟨#[]⟩, .int .i64 0, .float .f64 0, .bool false, .slice none 0 0] := fun q u h => by
   rw [Nat.zero_add, hW2, show w.heap.size + 1 = (w.alloc (.cells #[.int .i64 4, .string t, .int .i64 i, .float .f64 r, .bool f, .slice a n cap] 26)).heap.size by simp, World.cell?_alloc_new]; simpa using h
 have hfC : Blk W2 (w.heap.size + 1) := by rw [hW2, show w.heap.size + 1 = (w.alloc (.cells #[.int .i64 4, .string t, .int .i64 i, .float .f64 r, .bool f, .slice a n cap] 26)).heap.size by simp]; exact Blk.new _ _ _
 have hcl := hfC.lt
 have e0 := hB 0 _ rfl
 have e1 := hB 1 _ rfl
 have e2 := hB 2 _ rfl
 have e3 := hB 3 _ rfl
 have e4 := hB 4 _ rfl
 have e5 := hB 5 _ rfl
 clear hB
 replace hW2 := Hd hW2
 replace hb2 := Hd hb2
 replace hs2 := Hd hs2
 replace hrC := Hd hrC
 replace hfC := Hd hfC
 replace ek := Hd ek
 replace et := Hd et
 replace ei := Hd ei
 replace er := Hd er
 replace ef := Hd ef
 replace en := Hd en
 replace hra := Hd hra
 replace hLv := Hd hLv
 replace hp := Hd hp
 go_enter Tryz.func31, Tryz.ntmps31
 go_upto_region 1 with fail
 rw [<- hW2.out]
 have hdn : v.down = v := by
   rw [V.down_eq, <- ek.out]; rfl
 have hvl : v.list = [] := (Ao (by have := hp.out.fine; rw [V.fine_eq, Bool.and_eq_true, Bool.and_eq_true] at this; exact this.1.1)).list (by rw [<- ek.out]; decide)
 have hv6 : v = .mk 4 t i r f [] := by
   have h1 := ek.out
   have h2 := et.out
   have h3 := ei.out
   have h4 := er.out
   have h5 := ef.out
   cases v
   simp only [V.kind, V.text, V.int, V.real, V.flag, V.list] at h1 h2 h3 h4 h5 hvl
   subst h1 h2 h3 h4 h5 hvl
   rfl
 have hn0 : n = 0 := by rw [en.out, hvl]; rfl
 replace hdn := Hd hdn
 replace hv6 := Hd hv6
 replace hvl := Hd hvl
 have hrA : W2.rangeAt w.heap.size 0 [.int .i64 4, .string t, .int .i64 i, .float .f64 r, .bool f, .slice a n cap] := A9 e0 e1 e2 e3 e4 e5
 have htC := A0 (n := 6) hrC.out hfC.out rfl
 replace htC := Hd htC
 replace hrA := Hd hrA
 clear e1 e2 e3 e4 e5
 go_wp2_with (first
   | (refine wpList_load_mid rfl 26 _ rfl w.heap.size 0 rfl _ _ hrA.out Tryz.underlying26 rfl Af ?_)
   | (refine wpList_store_mid rfl 26 _ _ rfl (w.heap.size + 1) 0 _ rfl rfl htC.out Af (one6 _ _ _ _ _ _ _ _) ?_))
 have hrR : (W2.setCells (w.heap.size + 1) 0 [.int .i64 4, .string t, .int .i64 i, .float .f64 r, .bool f, .slice a n cap]).rangeAt (w.heap.size + 1) 0 [.int .i64 4, .string t, .int .i64 i, .float .f64 r, .bool f, .slice a n cap] := World.rangeAt_setCells_same _ _ _ _ htC.out
 refine bodyPost_ret (Am (v := .agg #[.int .i64 4, .string t, .int .i64 i, .float .f64 r, .bool f, .slice a n cap]) rfl rfl (run_loadVar_mid (P := Tryz.prog) _ _ 0 26 _ _ hrR Tryz.underlying26 rfl Af)) rfl ?_
 have hfin : Below w.heap.size W2 (W2.setCells (w.heap.size + 1) 0 [.int .i64 4, .string t, .int .i64 i, .float .f64 r, .bool f, .slice a n cap]) := (Fr.setCells (S := fun k => k = w.heap.size + 1) (fun _ => rfl) _ _ _ (Fr.refl _ W2)).below (by have := hs2.out; omega) (fun j hj e => by omega)
 subst hn0
 refine ⟨a, cap, by rw [hdn.out, hv6.out]; rfl, ?_, hb2.out.trans hfin⟩
 rw [hdn.out, hv6.out]; exact RV.leaf _ _ _ _ _ _ _ _
set_option maxRecDepth 100000 in
set_option maxHeartbeats 3200000 in
theorem down_6 {v : V} {t : ByteArray} {i : Int} {r : Nat} {f : Bool} {a : Option Addr} {n cap : Nat} {d : Int} {w : World} (hp : DownH v 6 t i r f a n cap d w) :
   Calls Tryz.prog 31 #[.agg #[.int .i64 6, .string t, .int .i64 i, .float .f64 r, .bool f, .slice a n cap]] w (Bx v w) := by
 obtain ⟨ek, et, ei, er, ef, en⟩ := hp.val.len
 have hra := (V.ranged_eq v).1 hp.ranged
 have hLv := hp.laid
 obtain ⟨W2, hW2⟩ : ∃ W2, W2 = (w.alloc (.cells #[.int .i64 6, .string t, .int .i64 i, .float .f64 r, .bool f, .slice a n cap] 26)).alloc (.cells #[.int .i64 0, .string ⟨#[]⟩, .int .i64 0, .float .f64 0, .bool false, .slice none 0 0] 26) := ⟨_, rfl⟩
 have hb2 : Below w.heap.size w W2 := by rw [hW2]; exact ((Below.refl _ _).alloc (Nat.le_refl _) _).alloc (by simp) _
 have hs2 : W2.heap.size = w.heap.size + 2 := by rw [hW2]; simp
 have hB : ∀ q u, #[.int .i64 6, .string t, .int .i64 i, .float .f64 r, .bool f, .slice a n cap][q]? = some u -> W2.cell? ⟨w.heap.size, q, none⟩ = some u := fun q u h => by rw [hW2, World.cell?_alloc_past _ _ _ (by simp), World.cell?_alloc_new]; exact h
 have hrC : W2.rangeAt (w.heap.size + 1) 0 [.int .i64 0, .string ⟨#[]⟩, .int .i64 0, .float .f64 0, .bool false, .slice none 0 0] := fun q u h => by
   rw [Nat.zero_add, hW2, show w.heap.size + 1 = (w.alloc (.cells #[.int .i64 6, .string t, .int .i64 i, .float .f64 r, .bool f, .slice a n cap] 26)).heap.size by simp, World.cell?_alloc_new]; simpa using h
 have hfC : Blk W2 (w.heap.size + 1) := by rw [hW2, show w.heap.size + 1 = (w.alloc (.cells #[.int .i64 6, .string t, .int .i64 i, .float .f64 r, .bool f, .slice a n cap] 26)).heap.size by simp]; exact Blk.new _ _ _
 have hcl := hfC.lt
 have e0 := hB 0 _ rfl
 have e1 := hB 1 _ rfl
 have e2 := hB 2 _ rfl
 have e3 := hB 3 _ rfl
 have e4 := hB 4 _ rfl
 have e5 := hB 5 _ rfl
 clear hB
 replace hW2 := Hd hW2
 replace hb2 := Hd hb2
 replace hs2 := Hd hs2
 replace hrC := Hd hrC
 replace hfC := Hd hfC
 replace ek := Hd ek
 replace et := Hd et
 replace ei := Hd ei
 replace er := Hd er
 replace ef := Hd ef
 replace en := Hd en
 replace hra := Hd hra
 replace hLv := Hd hLv
 replace hp := Hd hp
 go_enter Tryz.func31, Tryz.ntmps31
 go_upto_region 1 with fail
 rw [<- hW2.out]
 have hdn : v.down = v := by
   rw [V.down_eq, <- ek.out]; rfl
 have hvl : v.list = [] := (Ao (by have := hp.out.fine; rw [V.fine_eq, Bool.and_eq_true, Bool.and_eq_true] at this; exact this.1.1)).list (by rw [<- ek.out]; decide)
 have hv6 : v = .mk 6 t i r f [] := by
   have h1 := ek.out
   have h2 := et.out
   have h3 := ei.out
   have h4 := er.out
   have h5 := ef.out
   cases v
   simp only [V.kind, V.text, V.int, V.real, V.flag, V.list] at h1 h2 h3 h4 h5 hvl
   subst h1 h2 h3 h4 h5 hvl
   rfl
 have hn0 : n = 0 := by rw [en.out, hvl]; rfl
 replace hdn := Hd hdn
 replace hv6 := Hd hv6
 replace hvl := Hd hvl
 have hrA : W2.rangeAt w.heap.size 0 [.int .i64 6, .string t, .int .i64 i, .float .f64 r, .bool f, .slice a n cap] := A9 e0 e1 e2 e3 e4 e5
 have htC := A0 (n := 6) hrC.out hfC.out rfl
 replace htC := Hd htC
 replace hrA := Hd hrA
 clear e1 e2 e3 e4 e5
 go_wp2_with (first
   | (refine wpList_load_mid rfl 26 _ rfl w.heap.size 0 rfl _ _ hrA.out Tryz.underlying26 rfl Af ?_)
   | (refine wpList_store_mid rfl 26 _ _ rfl (w.heap.size + 1) 0 _ rfl rfl htC.out Af (one6 _ _ _ _ _ _ _ _) ?_))
 have hrR : (W2.setCells (w.heap.size + 1) 0 [.int .i64 6, .string t, .int .i64 i, .float .f64 r, .bool f, .slice a n cap]).rangeAt (w.heap.size + 1) 0 [.int .i64 6, .string t, .int .i64 i, .float .f64 r, .bool f, .slice a n cap] := World.rangeAt_setCells_same _ _ _ _ htC.out
 refine bodyPost_ret (Am (v := .agg #[.int .i64 6, .string t, .int .i64 i, .float .f64 r, .bool f, .slice a n cap]) rfl rfl (run_loadVar_mid (P := Tryz.prog) _ _ 0 26 _ _ hrR Tryz.underlying26 rfl Af)) rfl ?_
 have hfin : Below w.heap.size W2 (W2.setCells (w.heap.size + 1) 0 [.int .i64 6, .string t, .int .i64 i, .float .f64 r, .bool f, .slice a n cap]) := (Fr.setCells (S := fun k => k = w.heap.size + 1) (fun _ => rfl) _ _ _ (Fr.refl _ W2)).below (by have := hs2.out; omega) (fun j hj e => by omega)
 subst hn0
 refine ⟨a, cap, by rw [hdn.out, hv6.out]; rfl, ?_, hb2.out.trans hfin⟩
 rw [hdn.out, hv6.out]; exact RV.leaf _ _ _ _ _ _ _ _
end Go.Proofs.YtagkgfniihiinaaGreatDoor
