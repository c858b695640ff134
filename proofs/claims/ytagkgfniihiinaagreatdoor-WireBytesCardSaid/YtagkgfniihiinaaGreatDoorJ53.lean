/- wire.Down: a value as older readers know it. -/
import Derived.Test.YtagkgfniihiinaaGreatDoorDownP
import Derived.Test.YtagkgfniihiinaaGreatDoorWire3
import Derived.Test.YtagkgfniihiinaaGreatDoorJ40
namespace Go.Proofs.YtagkgfniihiinaaGreatDoor
open Go.RowKit Go.Joins
structure DownH (v : V) (k : Int) (t : ByteArray) (i : Int) (r : Nat) (f : Bool) (a : Option Addr) (n cap : Nat) (d : Int) (w : World) : Prop where
 val : RV w.cell? (Ae k t i r f a n cap) v
 fine : v.fine d = true
 ranged : v.ranged
 count : v.count <= 100000
 laid : LaidV w.heap.size w
def Fd (v : V) (w : World) (e : Ending) (w' : World) : Prop:=∃ a' cap',e = .returned (.agg #[.int .i64 v.down.kind,.string v.down.text,.int .i64 v.down.int,.float .f64 v.down.real,.bool v.down.flag,.slice a' v.down.list.length cap']) /\ RV (Bp w.heap.size w') (Ae v.down.kind v.down.text v.down.int v.down.real v.down.flag a' v.down.list.length cap') v.down /\ Below w.heap.size w w'
set_option maxRecDepth 100000 in
set_option maxHeartbeats 3200000 in
theorem down_9 {v : V} {t : ByteArray} {i : Int} {r : Nat} {f : Bool} {a : Option Addr} {n cap : Nat} {d : Int} {w : World} (hp : DownH v 9 t i r f a n cap d w) :
   Calls Tryz.prog 31 #[.agg #[.int .i64 9,.string t,.int .i64 i,.float .f64 r,.bool f,.slice a n cap]] w (Fd v w):=by
 obtain ⟨ek,et,ei,er,ef,en⟩:=hp.val.len
 have hra:=(V.ranged_eq v).1 hp.ranged
 have hLv:=hp.laid
 obtain ⟨W2,hW2⟩ : ∃ W2,W2 = (w.alloc (.cells #[.int .i64 9,.string t,.int .i64 i,.float .f64 r,.bool f,.slice a n cap] 26)).alloc (.cells #[.int .i64 0,.string ⟨#[]⟩,.int .i64 0,.float .f64 0,.bool false,.slice none 0 0] 26):=⟨_,rfl⟩
 have hb2 : Below w.heap.size w W2:=by rw [hW2]; exact ((Below.refl _ _).alloc (Nat.le_refl _) _).alloc (by simp) _
 have hs2 : W2.heap.size = w.heap.size + 2:=by rw [hW2]; simp
 have hB : ∀ q u,#[.int .i64 9,.string t,.int .i64 i,.float .f64 r,.bool f,.slice a n cap][q]? = some u -> W2.cell? ⟨w.heap.size,q,none⟩ = some u:=fun q u h => by rw [hW2,World.cell?_alloc_past _ _ _ (by simp),World.cell?_alloc_new]; exact h
 have hrC : W2.rangeAt (w.heap.size + 1) 0 [.int .i64 0,.string ⟨#[]⟩,.int .i64 0,.float .f64 0,.bool false,.slice none 0 0]:=fun q u h => by
   rw [Nat.zero_add,hW2,show w.heap.size + 1 = (w.alloc (.cells #[.int .i64 9,.string t,.int .i64 i,.float .f64 r,.bool f,.slice a n cap] 26)).heap.size by simp,World.cell?_alloc_new]; simpa using h
 have hfC : Blk W2 (w.heap.size + 1):=by rw [hW2,show w.heap.size + 1 = (w.alloc (.cells #[.int .i64 9,.string t,.int .i64 i,.float .f64 r,.bool f,.slice a n cap] 26)).heap.size by simp]; exact Blk.new _ _ _
 have hcl:=hfC.lt
 have e0:=hB 0 _ rfl
 have e1:=hB 1 _ rfl
 have e2:=hB 2 _ rfl
 have e3:=hB 3 _ rfl
 have e4:=hB 4 _ rfl
 have e5:=hB 5 _ rfl
 clear hB
 replace hW2:=Hd hW2
 replace hb2:=Hd hb2
 replace hs2:=Hd hs2
 replace hrC:=Hd hrC
 replace hfC:=Hd hfC
 replace ek:=Hd ek
 replace et:=Hd et
 replace ei:=Hd ei
 replace er:=Hd er
 replace ef:=Hd ef
 replace en:=Hd en
 replace hra:=Hd hra
 replace hLv:=Hd hLv
 replace hp:=Hd hp
 go_enter Tryz.func31,Tryz.ntmps31
 go_upto_region 1 with fail
 rw [<- hW2.out]
 have hdn : v.down = .mk 4 t 0 0 false []:=by rw [V.down_eq,<- ek.out,et.out]; rfl
 replace hdn:=Hd hdn
 have hre:=Below.refl W2.heap.size W2
 have htC:=Az (n:=6) (Ab hre hrC.out) (hfC.out.of_block (hre.block (w.heap.size + 1) hcl)) rfl
 have hsW:=hre.size
 replace htC:=Hd htC
 go_wp2_with (refine wpList_store_mid rfl 26 _ _ rfl (w.heap.size + 1) 0 _ rfl rfl htC.out Ac (one6 _ _ _ _ _ _ _ _) ?_)
 have hrR : (W2.setCells (w.heap.size + 1) 0 [.int .i64 4,.string t,.int .i64 0,.float .f64 0,.bool false,.slice none 0 0]).rangeAt (w.heap.size + 1) 0 [.int .i64 4,.string t,.int .i64 0,.float .f64 0,.bool false,.slice none 0 0]:=World.rangeAt_setCells_same _ _ _ _ htC.out
 refine bodyPost_ret (Ax (v:=.agg #[.int .i64 4,.string t,.int .i64 0,.float .f64 0,.bool false,.slice none 0 0]) rfl rfl (run_loadVar_mid (P:=Tryz.prog) _ _ 0 26 _ _ hrR Tryz.underlying26 rfl Ac)) rfl ?_
 have hfin : Below w.heap.size W2 (W2.setCells (w.heap.size + 1) 0 [.int .i64 4,.string t,.int .i64 0,.float .f64 0,.bool false,.slice none 0 0]):=(Fr.setCells (S:=fun k => k = w.heap.size + 1) (fun _ => rfl) _ _ _ (Fr.refl _ W2)).below (by have:=hs2.out; omega) (fun j hj e => by omega)
 exact ⟨none,0,by rw [hdn.out]; rfl,by rw [hdn.out]; exact RV.leaf _ _ _ _ _ _ _ _,(hb2.out.trans (hre.mono (by have:=hs2.out; omega))).trans hfin⟩
set_option maxRecDepth 100000 in
set_option maxHeartbeats 3200000 in
theorem down_8 {v : V} {t : ByteArray} {i : Int} {r : Nat} {f : Bool} {a : Option Addr} {n cap : Nat} {d : Int} {w : World} (hp : DownH v 8 t i r f a n cap d w) :
   Calls Tryz.prog 31 #[.agg #[.int .i64 8,.string t,.int .i64 i,.float .f64 r,.bool f,.slice a n cap]] w (Fd v w):=by
 obtain ⟨ek,et,ei,er,ef,en⟩:=hp.val.len
 have hra:=(V.ranged_eq v).1 hp.ranged
 have hLv:=hp.laid
 obtain ⟨W2,hW2⟩ : ∃ W2,W2 = (w.alloc (.cells #[.int .i64 8,.string t,.int .i64 i,.float .f64 r,.bool f,.slice a n cap] 26)).alloc (.cells #[.int .i64 0,.string ⟨#[]⟩,.int .i64 0,.float .f64 0,.bool false,.slice none 0 0] 26):=⟨_,rfl⟩
 have hb2 : Below w.heap.size w W2:=by rw [hW2]; exact ((Below.refl _ _).alloc (Nat.le_refl _) _).alloc (by simp) _
 have hs2 : W2.heap.size = w.heap.size + 2:=by rw [hW2]; simp
 have hB : ∀ q u,#[.int .i64 8,.string t,.int .i64 i,.float .f64 r,.bool f,.slice a n cap][q]? = some u -> W2.cell? ⟨w.heap.size,q,none⟩ = some u:=fun q u h => by rw [hW2,World.cell?_alloc_past _ _ _ (by simp),World.cell?_alloc_new]; exact h
 have hrC : W2.rangeAt (w.heap.size + 1) 0 [.int .i64 0,.string ⟨#[]⟩,.int .i64 0,.float .f64 0,.bool false,.slice none 0 0]:=fun q u h => by
   rw [Nat.zero_add,hW2,show w.heap.size + 1 = (w.alloc (.cells #[.int .i64 8,.string t,.int .i64 i,.float .f64 r,.bool f,.slice a n cap] 26)).heap.size by simp,World.cell?_alloc_new]; simpa using h
 have hfC : Blk W2 (w.heap.size + 1):=by rw [hW2,show w.heap.size + 1 = (w.alloc (.cells #[.int .i64 8,.string t,.int .i64 i,.float .f64 r,.bool f,.slice a n cap] 26)).heap.size by simp]; exact Blk.new _ _ _
 have hcl:=hfC.lt
 have e0:=hB 0 _ rfl
 have e1:=hB 1 _ rfl
 have e2:=hB 2 _ rfl
 have e3:=hB 3 _ rfl
 have e4:=hB 4 _ rfl
 have e5:=hB 5 _ rfl
 clear hB
 replace hW2:=Hd hW2
 replace hb2:=Hd hb2
 replace hs2:=Hd hs2
 replace hrC:=Hd hrC
 replace hfC:=Hd hfC
 replace ek:=Hd ek
 replace et:=Hd et
 replace ei:=Hd ei
 replace er:=Hd er
 replace ef:=Hd ef
 replace en:=Hd en
 replace hra:=Hd hra
 replace hLv:=Hd hLv
 replace hp:=Hd hp
 go_enter Tryz.func31,Tryz.ntmps31
 go_upto_region 1 with fail
 rw [<- hW2.out]
 have hdn : v.down = .mk 3 ⟨#[]⟩ (if f then 1 else 0) 0 false []:=by rw [V.down_eq,<- ek.out,ef.out]; rfl
 have hre:=Below.refl W2.heap.size W2
 cases f
 · replace hdn : v.down = .mk 3 ⟨#[]⟩ 0 0 false []:=hdn
   replace hdn:=Hd hdn;have htC:=Az (n:=6) (Ab hre hrC.out) (hfC.out.of_block (hre.block (w.heap.size + 1) hcl)) rfl;have hsW:=hre.size;replace htC:=Hd htC;go_wp2_with (refine wpList_store_mid rfl 26 _ _ rfl (w.heap.size + 1) 0 _ rfl rfl htC.out Ac (one6 _ _ _ _ _ _ _ _) ?_)
   have hrR : (W2.setCells (w.heap.size + 1) 0 [.int .i64 3,.string (⟨#[]⟩ : ByteArray),.int .i64 0,.float .f64 0,.bool false,.slice none 0 0]).rangeAt (w.heap.size + 1) 0 [.int .i64 3,.string (⟨#[]⟩ : ByteArray),.int .i64 0,.float .f64 0,.bool false,.slice none 0 0]:=World.rangeAt_setCells_same _ _ _ _ htC.out;refine bodyPost_ret (Ax (v:=.agg #[.int .i64 3,.string (⟨#[]⟩ : ByteArray),.int .i64 0,.float .f64 0,.bool false,.slice none 0 0]) rfl rfl (run_loadVar_mid (P:=Tryz.prog) _ _ 0 26 _ _ hrR Tryz.underlying26 rfl Ac)) rfl ?_;have hfin : Below w.heap.size W2 (W2.setCells (w.heap.size + 1) 0 [.int .i64 3,.string (⟨#[]⟩ : ByteArray),.int .i64 0,.float .f64 0,.bool false,.slice none 0 0]):=(Fr.setCells (S:=fun k => k = w.heap.size + 1) (fun _ => rfl) _ _ _ (Fr.refl _ W2)).below (by have:=hs2.out; omega) (fun j hj e => by omega)
   exact ⟨none,0,by rw [hdn.out]; rfl,by rw [hdn.out]; exact RV.leaf _ _ _ _ _ _ _ _,(hb2.out.trans (hre.mono (by have:=hs2.out; omega))).trans hfin⟩
 · replace hdn : v.down = .mk 3 ⟨#[]⟩ 1 0 false []:=hdn
   replace hdn:=Hd hdn;have htC:=Az (n:=6) (Ab hre hrC.out) (hfC.out.of_block (hre.block (w.heap.size + 1) hcl)) rfl;have hsW:=hre.size;replace htC:=Hd htC;go_wp2_with (refine wpList_store_mid rfl 26 _ _ rfl (w.heap.size + 1) 0 _ rfl rfl htC.out Ac (one6 _ _ _ _ _ _ _ _) ?_)
   have hrR : (W2.setCells (w.heap.size + 1) 0 [.int .i64 3,.string (⟨#[]⟩ : ByteArray),.int .i64 1,.float .f64 0,.bool false,.slice none 0 0]).rangeAt (w.heap.size + 1) 0 [.int .i64 3,.string (⟨#[]⟩ : ByteArray),.int .i64 1,.float .f64 0,.bool false,.slice none 0 0]:=World.rangeAt_setCells_same _ _ _ _ htC.out;refine bodyPost_ret (Ax (v:=.agg #[.int .i64 3,.string (⟨#[]⟩ : ByteArray),.int .i64 1,.float .f64 0,.bool false,.slice none 0 0]) rfl rfl (run_loadVar_mid (P:=Tryz.prog) _ _ 0 26 _ _ hrR Tryz.underlying26 rfl Ac)) rfl ?_;have hfin : Below w.heap.size W2 (W2.setCells (w.heap.size + 1) 0 [.int .i64 3,.string (⟨#[]⟩ : ByteArray),.int .i64 1,.float .f64 0,.bool false,.slice none 0 0]):=(Fr.setCells (S:=fun k => k = w.heap.size + 1) (fun _ => rfl) _ _ _ (Fr.refl _ W2)).below (by have:=hs2.out; omega) (fun j hj e => by omega)
   exact ⟨none,0,by rw [hdn.out]; rfl,by rw [hdn.out]; exact RV.leaf _ _ _ _ _ _ _ _,(hb2.out.trans (hre.mono (by have:=hs2.out; omega))).trans hfin⟩
set_option maxRecDepth 100000 in
set_option maxHeartbeats 3200000 in
theorem down_7 {v : V} {t : ByteArray} {i : Int} {r : Nat} {f : Bool} {a : Option Addr} {n cap : Nat} {d : Int} {w : World} (hp : DownH v 7 t i r f a n cap d w) :
   Calls Tryz.prog 31 #[.agg #[.int .i64 7,.string t,.int .i64 i,.float .f64 r,.bool f,.slice a n cap]] w (Fd v w):=by
 obtain ⟨ek,et,ei,er,ef,en⟩:=hp.val.len
 have hra:=(V.ranged_eq v).1 hp.ranged
 have hLv:=hp.laid
 obtain ⟨W2,hW2⟩ : ∃ W2,W2 = (w.alloc (.cells #[.int .i64 7,.string t,.int .i64 i,.float .f64 r,.bool f,.slice a n cap] 26)).alloc (.cells #[.int .i64 0,.string ⟨#[]⟩,.int .i64 0,.float .f64 0,.bool false,.slice none 0 0] 26):=⟨_,rfl⟩
 have hb2 : Below w.heap.size w W2:=by rw [hW2]; exact ((Below.refl _ _).alloc (Nat.le_refl _) _).alloc (by simp) _
 have hs2 : W2.heap.size = w.heap.size + 2:=by rw [hW2]; simp
 have hB : ∀ q u,#[.int .i64 7,.string t,.int .i64 i,.float .f64 r,.bool f,.slice a n cap][q]? = some u -> W2.cell? ⟨w.heap.size,q,none⟩ = some u:=fun q u h => by rw [hW2,World.cell?_alloc_past _ _ _ (by simp),World.cell?_alloc_new]; exact h
 have hrC : W2.rangeAt (w.heap.size + 1) 0 [.int .i64 0,.string ⟨#[]⟩,.int .i64 0,.float .f64 0,.bool false,.slice none 0 0]:=fun q u h => by
   rw [Nat.zero_add,hW2,show w.heap.size + 1 = (w.alloc (.cells #[.int .i64 7,.string t,.int .i64 i,.float .f64 r,.bool f,.slice a n cap] 26)).heap.size by simp,World.cell?_alloc_new]; simpa using h
 have hfC : Blk W2 (w.heap.size + 1):=by rw [hW2,show w.heap.size + 1 = (w.alloc (.cells #[.int .i64 7,.string t,.int .i64 i,.float .f64 r,.bool f,.slice a n cap] 26)).heap.size by simp]; exact Blk.new _ _ _
 have hcl:=hfC.lt
 have e0:=hB 0 _ rfl
 have e1:=hB 1 _ rfl
 have e2:=hB 2 _ rfl
 have e3:=hB 3 _ rfl
 have e4:=hB 4 _ rfl
 have e5:=hB 5 _ rfl
 clear hB
 replace hW2:=Hd hW2
 replace hb2:=Hd hb2
 replace hs2:=Hd hs2
 replace hrC:=Hd hrC
 replace hfC:=Hd hfC
 replace ek:=Hd ek
 replace et:=Hd et
 replace ei:=Hd ei
 replace er:=Hd er
 replace ef:=Hd ef
 replace en:=Hd en
 replace hra:=Hd hra
 replace hLv:=Hd hLv
 replace hp:=Hd hp
 go_enter Tryz.func31,Tryz.ntmps31
 go_upto_region 1 with fail
 rw [<- hW2.out]
 have hdn : v.down = .mk 4 ⟨(Bd r).toArray⟩ 0 0 false []:=by rw [V.down_eq,<- ek.out,er.out]; rfl
 have hF : Flo W2:=(hLv.out.below hb2.out (Nat.le_refl _)).isFlo
 have hr9 : r < 18446744073709551616:=by rw [er.out]; exact hra.out.2.2.1
 replace hdn:=Hd hdn
 go_wp2_with fail
 refine (realText_any hr9 hF).mono ?_
 rintro e w3 ⟨t3,rfl,ht3,hb3⟩
 have et3 : t3 = ⟨(Bd r).toArray⟩:=by rw [<- ht3]
 subst et3
 clear ht3 hF hr9
 have htC:=Az (n:=6) (Ab hb3 hrC.out) (hfC.out.of_block (hb3.block (w.heap.size + 1) hcl)) rfl
 have hsW:=hb3.size
 replace htC:=Hd htC
 go_wp2_with (refine wpList_store_mid rfl 26 _ _ rfl (w.heap.size + 1) 0 _ rfl rfl htC.out Ac (one6 _ _ _ _ _ _ _ _) ?_)
 have hrR : (w3.setCells (w.heap.size + 1) 0 [.int .i64 4,.string (⟨(Bd r).toArray⟩ : ByteArray),.int .i64 0,.float .f64 0,.bool false,.slice none 0 0]).rangeAt (w.heap.size + 1) 0 [.int .i64 4,.string (⟨(Bd r).toArray⟩ : ByteArray),.int .i64 0,.float .f64 0,.bool false,.slice none 0 0]:=World.rangeAt_setCells_same _ _ _ _ htC.out
 refine bodyPost_ret (Ax (v:=.agg #[.int .i64 4,.string (⟨(Bd r).toArray⟩ : ByteArray),.int .i64 0,.float .f64 0,.bool false,.slice none 0 0]) rfl rfl (run_loadVar_mid (P:=Tryz.prog) _ _ 0 26 _ _ hrR Tryz.underlying26 rfl Ac)) rfl ?_
 have hfin : Below w.heap.size w3 (w3.setCells (w.heap.size + 1) 0 [.int .i64 4,.string (⟨(Bd r).toArray⟩ : ByteArray),.int .i64 0,.float .f64 0,.bool false,.slice none 0 0]):=(Fr.setCells (S:=fun k => k = w.heap.size + 1) (fun _ => rfl) _ _ _ (Fr.refl _ w3)).below (by have:=hs2.out; omega) (fun j hj e => by omega)
 exact ⟨none,0,by rw [hdn.out]; rfl,by rw [hdn.out]; exact RV.leaf _ _ _ _ _ _ _ _,(hb2.out.trans (hb3.mono (by have:=hs2.out; omega))).trans hfin⟩
set_option maxRecDepth 100000 in
set_option maxHeartbeats 3200000 in
theorem Ep {K : Int} (hK : K = 1 \/ K = 2 \/ K = 3 \/ K = 4 \/ K = 6) {v : V} {t : ByteArray} {i : Int} {r : Nat} {f : Bool} {a : Option Addr} {n cap : Nat} {d : Int} {w : World} (hp : DownH v K t i r f a n cap d w) :
   Calls Tryz.prog 31 #[.agg #[.int .i64 K,.string t,.int .i64 i,.float .f64 r,.bool f,.slice a n cap]] w (Fd v w):=by
 have h7 : (K == 7) = false:=by simp; omega
 have h8 : (K == 8) = false:=by simp; omega
 have h9 : (K == 9) = false:=by simp; omega
 have h10 : (K == 10) = false:=by simp; omega
 have h11 : (K == 11) = false:=by simp; omega
 have n7 : ¬ K = 7:=by omega
 have n8 : ¬ K = 8:=by omega
 have n9 : ¬ K = 9:=by omega
 have n10 : ¬ K = 10:=by omega
 have n11 : ¬ K = 11:=by omega
 have h5 : (K == 5) = false:=by simp; omega
 have h12 : (K == 12) = false:=by simp; omega
 have h13 : (K == 13) = false:=by simp; omega
 have h14 : (K == 14) = false:=by simp; omega
 have n5 : ¬ K = 5:=by omega
 have n12 : ¬ K = 12:=by omega
 have n13 : ¬ K = 13:=by omega
 have n14 : ¬ K = 14:=by omega
 replace hK:=Hd hK
 obtain ⟨ek,et,ei,er,ef,en⟩:=hp.val.len
 have hra:=(V.ranged_eq v).1 hp.ranged
 have hLv:=hp.laid
 obtain ⟨W2,hW2⟩ : ∃ W2,W2 = (w.alloc (.cells #[.int .i64 K,.string t,.int .i64 i,.float .f64 r,.bool f,.slice a n cap] 26)).alloc (.cells #[.int .i64 0,.string ⟨#[]⟩,.int .i64 0,.float .f64 0,.bool false,.slice none 0 0] 26):=⟨_,rfl⟩
 have hb2 : Below w.heap.size w W2:=by rw [hW2]; exact ((Below.refl _ _).alloc (Nat.le_refl _) _).alloc (by simp) _
 have hs2 : W2.heap.size = w.heap.size + 2:=by rw [hW2]; simp
 have hB : ∀ q u,#[.int .i64 K,.string t,.int .i64 i,.float .f64 r,.bool f,.slice a n cap][q]? = some u -> W2.cell? ⟨w.heap.size,q,none⟩ = some u:=fun q u h => by rw [hW2,World.cell?_alloc_past _ _ _ (by simp),World.cell?_alloc_new]; exact h
 have hrC : W2.rangeAt (w.heap.size + 1) 0 [.int .i64 0,.string ⟨#[]⟩,.int .i64 0,.float .f64 0,.bool false,.slice none 0 0]:=fun q u h => by
   rw [Nat.zero_add,hW2,show w.heap.size + 1 = (w.alloc (.cells #[.int .i64 K,.string t,.int .i64 i,.float .f64 r,.bool f,.slice a n cap] 26)).heap.size by simp,World.cell?_alloc_new]; simpa using h
 have hfC : Blk W2 (w.heap.size + 1):=by rw [hW2,show w.heap.size + 1 = (w.alloc (.cells #[.int .i64 K,.string t,.int .i64 i,.float .f64 r,.bool f,.slice a n cap] 26)).heap.size by simp]; exact Blk.new _ _ _
 have hcl:=hfC.lt
 have e0:=hB 0 _ rfl
 have e1:=hB 1 _ rfl
 have e2:=hB 2 _ rfl
 have e3:=hB 3 _ rfl
 have e4:=hB 4 _ rfl
 have e5:=hB 5 _ rfl
 clear hB
 replace hW2:=Hd hW2
 replace hb2:=Hd hb2
 replace hs2:=Hd hs2
 replace hrC:=Hd hrC
 replace hfC:=Hd hfC
 replace ek:=Hd ek
 replace et:=Hd et
 replace ei:=Hd ei
 replace er:=Hd er
 replace ef:=Hd ef
 replace en:=Hd en
 replace hra:=Hd hra
 replace hLv:=Hd hLv
 replace hp:=Hd hp
 go_enter Tryz.func31,Tryz.ntmps31
 go_upto_region 1 with fail
 rw [<- hW2.out]
 have hdn : v.down = v:=by
   have hk:=ek.out;have hK:=hK.out;rw [V.down_eq,if_neg (by omega),if_neg (by omega),if_neg (by omega),if_neg (by omega),if_neg (by omega),if_neg (by omega)]
 have hvl : v.list = []:=(Ak (by have:=hp.out.fine; rw [V.fine_eq,Bool.and_eq_true,Bool.and_eq_true] at this; exact this.1.1)).list (by have hk:=ek.out; have hK:=hK.out; omega)
 have hv6 : v = .mk K t i r f []:=by
   have h1:=ek.out;have h2:=et.out;have h3:=ei.out;have h4:=er.out;have h5:=ef.out;cases v
   simp only [V.kind,V.text,V.int,V.real,V.flag,V.list] at h1 h2 h3 h4 h5 hvl;subst h1 h2 h3 h4 h5 hvl;rfl
 have hn0 : n = 0:=by rw [en.out,hvl]; rfl
 replace hdn:=Hd hdn
 replace hv6:=Hd hv6
 replace hvl:=Hd hvl
 have hrA : W2.rangeAt w.heap.size 0 [.int .i64 K,.string t,.int .i64 i,.float .f64 r,.bool f,.slice a n cap]:=Bt e0 e1 e2 e3 e4 e5
 have htC:=Az (n:=6) hrC.out hfC.out rfl
 replace htC:=Hd htC
 replace hrA:=Hd hrA
 clear e1 e2 e3 e4 e5
 go_wp2_with (first
   | (refine wpList_load_mid rfl 26 _ rfl w.heap.size 0 rfl _ _ hrA.out Tryz.underlying26 rfl Ac ?_)
   | (refine wpList_store_mid rfl 26 _ _ rfl (w.heap.size + 1) 0 _ rfl rfl htC.out Ac (one6 _ _ _ _ _ _ _ _) ?_))
 have hrR : (W2.setCells (w.heap.size + 1) 0 [.int .i64 K,.string t,.int .i64 i,.float .f64 r,.bool f,.slice a n cap]).rangeAt (w.heap.size + 1) 0 [.int .i64 K,.string t,.int .i64 i,.float .f64 r,.bool f,.slice a n cap]:=World.rangeAt_setCells_same _ _ _ _ htC.out
 refine bodyPost_ret (Ax (v:=.agg #[.int .i64 K,.string t,.int .i64 i,.float .f64 r,.bool f,.slice a n cap]) rfl rfl (run_loadVar_mid (P:=Tryz.prog) _ _ 0 26 _ _ hrR Tryz.underlying26 rfl Ac)) rfl ?_
 have hfin : Below w.heap.size W2 (W2.setCells (w.heap.size + 1) 0 [.int .i64 K,.string t,.int .i64 i,.float .f64 r,.bool f,.slice a n cap]):=(Fr.setCells (S:=fun k => k = w.heap.size + 1) (fun _ => rfl) _ _ _ (Fr.refl _ W2)).below (by have:=hs2.out; omega) (fun j hj e => by omega)
 subst hn0
 refine ⟨a,cap,by rw [hdn.out,hv6.out]; rfl,?_,hb2.out.trans hfin⟩
 rw [hdn.out,hv6.out]; exact RV.leaf _ _ _ _ _ _ _ _
theorem fine11 {v : V} {d : Int} (h : v.fine d = true) (hk : v.kind = 11) : 4 <= v.text.size:=by
 rw [V.fine_eq,Bool.and_eq_true,Bool.and_eq_true] at h;have h2:=h.1.1;unfold okV at h2;rw [Bool.and_eq_true,Bool.and_eq_true] at h2;have h3:=h2.1.2;unfold Eb at h3;rw [if_neg (by omega),if_neg (by omega),if_pos hk] at h3;unfold Fh at h3;split at h3
 · omega
 · cases h3
set_option maxRecDepth 100000 in
set_option maxHeartbeats 3200000 in
theorem down_11 {v : V} {t : ByteArray} {i : Int} {r : Nat} {f : Bool} {a : Option Addr} {n cap : Nat} {d : Int} {w : World} (hp : DownH v 11 t i r f a n cap d w) :
   Calls Tryz.prog 31 #[.agg #[.int .i64 11,.string t,.int .i64 i,.float .f64 r,.bool f,.slice a n cap]] w (Fd v w):=by
 obtain ⟨ek,et,ei,er,ef,en⟩:=hp.val.len
 have hra:=(V.ranged_eq v).1 hp.ranged
 have hLv:=hp.laid
 obtain ⟨W2,hW2⟩ : ∃ W2,W2 = (w.alloc (.cells #[.int .i64 11,.string t,.int .i64 i,.float .f64 r,.bool f,.slice a n cap] 26)).alloc (.cells #[.int .i64 0,.string ⟨#[]⟩,.int .i64 0,.float .f64 0,.bool false,.slice none 0 0] 26):=⟨_,rfl⟩
 have hb2 : Below w.heap.size w W2:=by rw [hW2]; exact ((Below.refl _ _).alloc (Nat.le_refl _) _).alloc (by simp) _
 have hs2 : W2.heap.size = w.heap.size + 2:=by rw [hW2]; simp
 have hB : ∀ q u,#[.int .i64 11,.string t,.int .i64 i,.float .f64 r,.bool f,.slice a n cap][q]? = some u -> W2.cell? ⟨w.heap.size,q,none⟩ = some u:=fun q u h => by rw [hW2,World.cell?_alloc_past _ _ _ (by simp),World.cell?_alloc_new]; exact h
 have hrC : W2.rangeAt (w.heap.size + 1) 0 [.int .i64 0,.string ⟨#[]⟩,.int .i64 0,.float .f64 0,.bool false,.slice none 0 0]:=fun q u h => by
   rw [Nat.zero_add,hW2,show w.heap.size + 1 = (w.alloc (.cells #[.int .i64 11,.string t,.int .i64 i,.float .f64 r,.bool f,.slice a n cap] 26)).heap.size by simp,World.cell?_alloc_new]; simpa using h
 have hfC : Blk W2 (w.heap.size + 1):=by rw [hW2,show w.heap.size + 1 = (w.alloc (.cells #[.int .i64 11,.string t,.int .i64 i,.float .f64 r,.bool f,.slice a n cap] 26)).heap.size by simp]; exact Blk.new _ _ _
 have hcl:=hfC.lt
 have e0:=hB 0 _ rfl
 have e1:=hB 1 _ rfl
 have e2:=hB 2 _ rfl
 have e3:=hB 3 _ rfl
 have e4:=hB 4 _ rfl
 have e5:=hB 5 _ rfl
 clear hB
 replace hW2:=Hd hW2
 replace hb2:=Hd hb2
 replace hs2:=Hd hs2
 replace hrC:=Hd hrC
 replace hfC:=Hd hfC
 replace ek:=Hd ek
 replace et:=Hd et
 replace ei:=Hd ei
 replace er:=Hd er
 replace ef:=Hd ef
 replace en:=Hd en
 replace hra:=Hd hra
 replace hLv:=Hd hLv
 replace hp:=Hd hp
 go_enter Tryz.func31,Tryz.ntmps31
 go_upto_region 1 with fail
 rw [<- hW2.out]
 have hok:=Ak (v:=v) (by have:=hp.out.fine; rw [V.fine_eq,Bool.and_eq_true,Bool.and_eq_true] at this; exact this.1.1)
 have ht1 : t.size <= 4096:=by rw [et.out]; exact hok.size
 have ht4 : 4 <= t.size:=by
   rw [et.out]; exact fine11 hp.out.fine ek.out.symm
 obtain ⟨q,hq⟩ : ∃ q,t.extract 4 t.size = q:=⟨_,rfl⟩
 have hdn : v.down = .mk 4 q 0 0 false []:=by rw [V.down_eq,<- ek.out,<- hq,et.out]; rfl
 replace hdn:=Hd hdn
 have hre:=Below.refl W2.heap.size W2
 have hmin : min (4 : Int) (t.size : Int) = 4:=by omega
 clear hok
 have htC:=Az (n:=6) (Ab hre hrC.out) (hfC.out.of_block (hre.block (w.heap.size + 1) hcl)) rfl
 have hsW:=hre.size
 replace htC:=Hd htC
 go_wp2_with (refine wpList_store_mid rfl 26 _ _ rfl (w.heap.size + 1) 0 _ rfl rfl htC.out Ac (one6 _ _ _ _ _ _ _ _) ?_)
 have hrR : (W2.setCells (w.heap.size + 1) 0 [.int .i64 4,.string q,.int .i64 0,.float .f64 0,.bool false,.slice none 0 0]).rangeAt (w.heap.size + 1) 0 [.int .i64 4,.string q,.int .i64 0,.float .f64 0,.bool false,.slice none 0 0]:=World.rangeAt_setCells_same _ _ _ _ htC.out
 refine bodyPost_ret (Ax (v:=.agg #[.int .i64 4,.string q,.int .i64 0,.float .f64 0,.bool false,.slice none 0 0]) rfl rfl (run_loadVar_mid (P:=Tryz.prog) _ _ 0 26 _ _ hrR Tryz.underlying26 rfl Ac)) rfl ?_
 have hfin : Below w.heap.size W2 (W2.setCells (w.heap.size + 1) 0 [.int .i64 4,.string q,.int .i64 0,.float .f64 0,.bool false,.slice none 0 0]):=(Fr.setCells (S:=fun k => k = w.heap.size + 1) (fun _ => rfl) _ _ _ (Fr.refl _ W2)).below (by have:=hs2.out; omega) (fun j hj e => by omega)
 exact ⟨none,0,by rw [hdn.out]; rfl,by rw [hdn.out]; exact RV.leaf _ _ _ _ _ _ _ _,(hb2.out.trans (hre.mono (by have:=hs2.out; omega))).trans hfin⟩
theorem reads_four {w : World} {b : Nat} {t : TypeId} (h : w.heap[b]? = some (.cells #[.string ⟨#[13]⟩,.string ⟨#[32]⟩,.string ⟨#[10]⟩,.string ⟨#[32]⟩] t (0,0))) : Reads w 1 (.slice (some ⟨b,0,none⟩) 4 4) 4 fourT:=
 ⟨_,_,rfl,rfl,fun j u hj => ⟨b,0,rfl,by simp [World.cell?,h]; simpa [fourT] using hj⟩⟩
def dnR (W2 : World) (i : Nat) (w w' : World) : Prop:=match i with
 | 0 => Below w.heap.size w w'
 | 1 => Below w.heap.size w w'
 | 4 => Below W2.heap.size w w'
 | 6 => True
 | _ => w' = w
set_option maxRecDepth 100000 in
set_option maxHeartbeats 3200000 in
theorem down_10 {v : V} {t : ByteArray} {i : Int} {r : Nat} {f : Bool} {a : Option Addr} {n cap : Nat} {d : Int} {w : World} (hp : DownH v 10 t i r f a n cap d w) :
   Calls Tryz.prog 31 #[.agg #[.int .i64 10,.string t,.int .i64 i,.float .f64 r,.bool f,.slice a n cap]] w (Fd v w):=by
 obtain ⟨ek,et,ei,er,ef,en⟩:=hp.val.len
 have hra:=(V.ranged_eq v).1 hp.ranged
 have hLv:=hp.laid
 obtain ⟨W2,hW2⟩ : ∃ W2,W2 = (w.alloc (.cells #[.int .i64 10,.string t,.int .i64 i,.float .f64 r,.bool f,.slice a n cap] 26)).alloc (.cells #[.int .i64 0,.string ⟨#[]⟩,.int .i64 0,.float .f64 0,.bool false,.slice none 0 0] 26):=⟨_,rfl⟩
 have hb2 : Below w.heap.size w W2:=by rw [hW2]; exact ((Below.refl _ _).alloc (Nat.le_refl _) _).alloc (by simp) _
 have hs2 : W2.heap.size = w.heap.size + 2:=by rw [hW2]; simp
 have hB : ∀ q u,#[.int .i64 10,.string t,.int .i64 i,.float .f64 r,.bool f,.slice a n cap][q]? = some u -> W2.cell? ⟨w.heap.size,q,none⟩ = some u:=fun q u h => by rw [hW2,World.cell?_alloc_past _ _ _ (by simp),World.cell?_alloc_new]; exact h
 have hrC : W2.rangeAt (w.heap.size + 1) 0 [.int .i64 0,.string ⟨#[]⟩,.int .i64 0,.float .f64 0,.bool false,.slice none 0 0]:=fun q u h => by
   rw [Nat.zero_add,hW2,show w.heap.size + 1 = (w.alloc (.cells #[.int .i64 10,.string t,.int .i64 i,.float .f64 r,.bool f,.slice a n cap] 26)).heap.size by simp,World.cell?_alloc_new]; simpa using h
 have hfC : Blk W2 (w.heap.size + 1):=by rw [hW2,show w.heap.size + 1 = (w.alloc (.cells #[.int .i64 10,.string t,.int .i64 i,.float .f64 r,.bool f,.slice a n cap] 26)).heap.size by simp]; exact Blk.new _ _ _
 have hcl:=hfC.lt
 have e0:=hB 0 _ rfl
 have e1:=hB 1 _ rfl
 have e2:=hB 2 _ rfl
 have e3:=hB 3 _ rfl
 have e4:=hB 4 _ rfl
 have e5:=hB 5 _ rfl
 clear hB
 replace hW2:=Hd hW2
 replace hb2:=Hd hb2
 replace hs2:=Hd hs2
 replace hrC:=Hd hrC
 replace hfC:=Hd hfC
 replace ek:=Hd ek
 replace et:=Hd et
 replace ei:=Hd ei
 replace er:=Hd er
 replace ef:=Hd ef
 replace en:=Hd en
 replace hra:=Hd hra
 replace hLv:=Hd hLv
 replace hp:=Hd hp
 go_enter Tryz.func31,Tryz.ntmps31
 go_upto_region 1 with fail
 rw [<- hW2.out]
 have hok:=Ak (v:=v) (by have:=hp.out.fine; rw [V.fine_eq,Bool.and_eq_true,Bool.and_eq_true] at this; exact this.1.1)
 have htz : t.size <= 1000000000000:=by have:=hok.size; rw [et.out]; omega
 have hdn : v.down = .mk 2 (Bc t) 0 0 false []:=by rw [V.down_eq,<- ek.out,et.out]; rfl
 replace hdn:=Hd hdn
 clear hok
 have hB9 : w.heap.size < W2.heap.size:=by have:=hs2.out; omega
 go_upto_region 14 with fail
 obtain ⟨B9,hBe⟩ : ∃ B,w.heap.size = B:=⟨_,rfl⟩
 rw [hBe] at hrC hfC hcl e1 hB9 hs2 ⊢
 refine wp_region_rely (l:=[_,_,_,_,_,_,_]) (fun _ => True) (Below W2.heap.size W2) (dnR W2) (fun kG_ => ([fun v w => ∃ b,v = .slice (some ⟨b,0,none⟩) 4 4 /\ w.heap[b]? = some (.cells #[.string ⟨#[13]⟩,.string ⟨#[32]⟩,.string ⟨#[10]⟩,.string ⟨#[32]⟩] 9 (0,0)),fun v w => ∃ rr o cp,v = .pointer (some ⟨rr,0,none⟩) /\ W2.heap.size <= rr /\ Fresh w rr o cp,fun v _ => v = .pointer (some ⟨B9,1,none⟩),fun v _ => v = .string t,fun v _ => v = .string (Bc t),fun v _ => v = .agg #[.int .i64 2,.string (Bc t),.int .i64 0,.float .f64 0,.bool false,.slice none 0 0],fun v w => ∃ w1 : World,w = w1.setCells (B9 + 1) 0 [.int .i64 2,.string (Bc t),.int .i64 0,.float .f64 0,.bool false,.slice none 0 0] /\ Below W2.heap.size W2 w1] : List (Value -> World -> Prop)).getD kG_ (fun _ _ => True)) (eats [(1,0),(4,1)]) (isIn [6]) (by kernel_rfl) (by kernel_rfl) (by kernel_rfl) trivial ((Below.refl _ _).drew) ?_ ?_ ?_ ?_
 · intro i kG_ u w w' hne hE hg hr
   rcases kG_ with _ | _ | _ | _ | _ | _ | _ | kG_
   · replace hg : (fun (v : Value) (w : World) => ∃ b,v = .slice (some ⟨b,0,none⟩) 4 4 /\ w.heap[b]? = some (.cells #[.string ⟨#[13]⟩,.string ⟨#[32]⟩,.string ⟨#[10]⟩,.string ⟨#[32]⟩] 9 (0,0))) u w:=hg
     show (fun (v : Value) (w : World) => ∃ b,v = .slice (some ⟨b,0,none⟩) 4 4 /\ w.heap[b]? = some (.cells #[.string ⟨#[13]⟩,.string ⟨#[32]⟩,.string ⟨#[10]⟩,.string ⟨#[32]⟩] 9 (0,0))) u w';dsimp only at hg ⊢;replace hE : exB _ _ i 0 = false:=hE;replace hne : 0 ≠ i:=hne;unfold dnR at hr;split at hr
     all_goals first
       | exact absurd rfl hne
       | exact absurd (hE.symm.trans (by decide +kernel : exB _ _ _ _ = true)) (by decide)
       | (subst hr; exact hg)
       | ((obtain ⟨b,h1,h2⟩:=hg; exact ⟨b,h1,(hr.block b (Array.getElem?_eq_some_iff.1 h2).1).trans h2⟩))
   · replace hg : (fun (v : Value) (w : World) => ∃ rr o cp,v = .pointer (some ⟨rr,0,none⟩) /\ W2.heap.size <= rr /\ Fresh w rr o cp) u w:=hg
     show (fun (v : Value) (w : World) => ∃ rr o cp,v = .pointer (some ⟨rr,0,none⟩) /\ W2.heap.size <= rr /\ Fresh w rr o cp) u w';dsimp only at hg ⊢;replace hE : exB _ _ i 1 = false:=hE;replace hne : 1 ≠ i:=hne;unfold dnR at hr;split at hr
     all_goals first
       | exact absurd rfl hne
       | exact absurd (hE.symm.trans (by decide +kernel : exB _ _ _ _ = true)) (by decide)
       | (subst hr; exact hg)
       | ((obtain ⟨rr,o,cp,h1,h2,h3⟩:=hg; exact ⟨rr,o,cp,h1,h2,h3.below hr⟩))
   · exact hg
   · exact hg
   · exact hg
   · exact hg
   · replace hg : (fun (v : Value) (w : World) => ∃ w1 : World,w = w1.setCells (B9 + 1) 0 [.int .i64 2,.string (Bc t),.int .i64 0,.float .f64 0,.bool false,.slice none 0 0] /\ Below W2.heap.size W2 w1) u w:=hg
     show (fun (v : Value) (w : World) => ∃ w1 : World,w = w1.setCells (B9 + 1) 0 [.int .i64 2,.string (Bc t),.int .i64 0,.float .f64 0,.bool false,.slice none 0 0] /\ Below W2.heap.size W2 w1) u w';dsimp only at hg ⊢;replace hE : exB _ _ i 6 = false:=hE;replace hne : 6 ≠ i:=hne;unfold dnR at hr;split at hr
     all_goals first
       | exact absurd rfl hne
       | exact absurd (hE.symm.trans (by decide +kernel : exB _ _ _ _ = true)) (by decide)
       | (subst hr; exact hg)
       | (fail)
   · trivial
 · intro j w6 w7 hF hI hr
   unfold dnR at hr;split at hr
   · exact hI.trans (hr.mono hI.size)
   · exact hI.trans (hr.mono hI.size)
   · exact hI.trans hr
   · exact absurd hF (by decide)
   · subst hr; exact hI
 · refine ⟨?_,?_,?_,?_,?_,?_,?_,trivial⟩
   · refine VC.plain rfl fun a wx hf => ?_
     exact Ag (u:=.slice (some ⟨wx.heap.size,0,none⟩) 4 4) (w':=wx.alloc (.cells #[.string ⟨#[13]⟩,.string ⟨#[32]⟩,.string ⟨#[10]⟩,.string ⟨#[32]⟩] 9)) (by simp [go_sem,Tryz.underlying33]) ⟨trivial,(Below.refl _ _).alloc (Nat.le_refl _) _,wx.heap.size,rfl,(MapKept.heap_alloc wx _).1⟩
   · refine VC.plain rfl fun a wx hf => ?_
     obtain ⟨v38,g38,s38⟩:=hf.got 0 (by kernel_rfl) (by intro j hj; simp [eats] at hj; omega) rfl rfl;have q38:=An s38;replace g38 : (fun (v : Value) (w : World) => ∃ b,v = .slice (some ⟨b,0,none⟩) 4 4 /\ w.heap[b]? = some (.cells #[.string ⟨#[13]⟩,.string ⟨#[32]⟩,.string ⟨#[10]⟩,.string ⟨#[32]⟩] 9 (0,0))) v38 wx:=g38;dsimp only at g38;have hI:=hf.start (by kernel_rfl);obtain ⟨b,rfl,hb⟩:=g38;have hIs:=hI.size;exact Bh (f:=49) (args:=#[.slice (some ⟨b,0,none⟩) 4 4]) (by simp [go_sem,q38]) ((new_any (reads_four hb)).mono fun e w' ⟨rr,o,cp,he,hr1,hr2,hfr,hbl⟩ => ⟨_,he,trivial,hbl,rr,o,cp,rfl,by omega,hfr⟩)
   · refine VC.plain rfl fun a wx hf => ?_
     have s1:=hf.old 1 (by first | rfl | kernel_rfl);have q1:=An s1;exact Ag (by simp [go_sem,q1]) ⟨hf.c,rfl,rfl⟩
   · refine VC.plain rfl fun a wx hf => ?_
     obtain ⟨v40,g40,s40⟩:=hf.got 2 (by kernel_rfl) (by intro j hj; simp [eats] at hj) rfl rfl;replace s40:=s40.trans (show v40 = .pointer (some ⟨B9,1,none⟩) from g40);clear g40;have q40:=An s40;have hI:=hf.start (by kernel_rfl);exact Ag (by simp [go_sem,q40,hI.cell (p:=⟨B9,1,none⟩) hB9,e1]) ⟨trivial,rfl,rfl⟩
   · refine VC.plain rfl fun a wx hf => ?_
     obtain ⟨v39,g39,s39⟩:=hf.got 1 (by kernel_rfl) (by intro j hj; simp [eats] at hj; omega) rfl rfl;have q39:=An s39;replace g39 : (fun (v : Value) (w : World) => ∃ rr o cp,v = .pointer (some ⟨rr,0,none⟩) /\ W2.heap.size <= rr /\ Fresh w rr o cp) v39 wx:=g39;dsimp only at g39;obtain ⟨v41,g41,s41⟩:=hf.got 3 (by kernel_rfl) (by intro j hj; simp [eats] at hj) rfl rfl;replace s41:=s41.trans (show v41 = .string t from g41);clear g41;have q41:=An s41;have hI:=hf.start (by kernel_rfl);obtain ⟨rr,o,cp,rfl,hr1,hfr⟩:=g39;have hIs:=hI.size;exact Bh (f:=50) (args:=#[.pointer (some ⟨rr,0,none⟩),.string t]) (by simp [go_sem,q39,q41]) ((rplReplace_any hfr t htz).mono fun e w' ⟨he,hf2⟩ => ⟨_,he,trivial,hf2.below hIs (fun j hj e => by omega),rfl⟩)
   · refine VC.plain rfl fun a wx hf => ?_
     obtain ⟨v42,g42,s42⟩:=hf.got 4 (by kernel_rfl) (by intro j hj; simp [eats] at hj) rfl rfl;replace s42:=s42.trans (show v42 = .string (Bc t) from g42);clear g42;have q42:=An s42;exact Ag (by simp [go_sem,q42]) ⟨trivial,rfl,rfl⟩
   · refine VC.plain rfl fun a wx hf => ?_
     have s2:=hf.old 2 (by first | rfl | kernel_rfl);have q2:=An s2;obtain ⟨v43,g43,s43⟩:=hf.got 5 (by kernel_rfl) (by intro j hj; simp [eats] at hj) rfl rfl;replace s43:=s43.trans (show v43 = .agg #[.int .i64 2,.string (Bc t),.int .i64 0,.float .f64 0,.bool false,.slice none 0 0] from g43);clear g43;have q43:=An s43;have hI:=hf.start (by kernel_rfl);have htC:=Az (n:=6) (Ab hI hrC.out) (hfC.out.of_block (hI.block (B9 + 1) hcl)) rfl;exact gives_store_mid rfl s2 s43 htC Ac (one6 _ _ _ _ _ _ _ _) ⟨trivial,trivial,wx,rfl,hI⟩
 · intro vs w5 _ hG
   obtain ⟨w6,e,hb6⟩:=hG 6 (by decide) (by decide);clear hG;subst e;have htC:=Az (n:=6) (Ab hb6 hrC.out) (hfC.out.of_block (hb6.block (B9 + 1) hcl)) rfl;have hrR : (w6.setCells (B9 + 1) 0 [.int .i64 2,.string (Bc t),.int .i64 0,.float .f64 0,.bool false,.slice none 0 0]).rangeAt (B9 + 1) 0 [.int .i64 2,.string (Bc t),.int .i64 0,.float .f64 0,.bool false,.slice none 0 0]:=World.rangeAt_setCells_same _ _ _ _ htC;have hs6:=hb6.size;have hfin : Below B9 w6 (w6.setCells (B9 + 1) 0 [.int .i64 2,.string (Bc t),.int .i64 0,.float .f64 0,.bool false,.slice none 0 0]):=(Fr.setCells (S:=fun k => k = B9 + 1) (fun _ => rfl) _ _ _ (Fr.refl _ w6)).below (by have:=hs2.out; omega) (fun j hj e => by omega);replace hrR:=Hd hrR;replace hfin:=Hd hfin;replace hb6:=Hd hb6;clear htC;simp only [putFrom,Act.put,List.setIfInBounds_toArray,List.set_cons_zero,List.set_cons_succ];go_wp2_with fail
   refine bodyPost_ret (Ax (v:=.agg #[.int .i64 2,.string (Bc t),.int .i64 0,.float .f64 0,.bool false,.slice none 0 0]) rfl rfl (run_loadVar_mid (P:=Tryz.prog) _ _ 0 26 _ _ hrR.out Tryz.underlying26 rfl Ac)) rfl ?_;have hb2':=hb2.out;rw [hBe] at hb2';refine ⟨none,0,by rw [hdn.out]; rfl,by rw [hdn.out]; exact RV.leaf _ _ _ _ _ _ _ _,?_⟩;rw [hBe];exact (hb2'.trans (hb6.out.mono (by have:=hs2.out; omega))).trans hfin.out
theorem Gn {w : World} {b size : Nat} {us : Array Value} {t : TypeId} (h : w.heap[b]? = some (.cells us t (0,0))) (hs : us.size = size) : Reads w size (.slice (some ⟨b,0,none⟩) 1 1) 1 us.toList:=
 ⟨_,_,rfl,by simp [hs],fun j u hj => ⟨b,0,rfl,by simp [World.cell?,h]; simpa using hj⟩⟩
def DApp (D : Nat) (W4 : World) (old : Value) (j : Nat) (css : List (List Value)) (pre : List V) (y : V) (v : Value) (w : World) : Prop:=
 ∃ (a1 : Option Addr) (c1 : Nat),Fr (fun k => old.ownBlock = some k) W4 w /\ w.ownsRow (D + 1) 26 6 v (j + 1) (css.flatten ++ Ae y.kind y.text y.int y.real y.flag a1 y.list.length c1) /\
   RVs (nf (D + 1) v.ownBlock w) (css ++ [Ae y.kind y.text y.int y.real y.flag a1 y.list.length c1]) (pre ++ [y])
def dlR (i : Nat) (w w' : World) : Prop:=match i with
 | 3 => Below w.heap.size w w'
 | 4 => Below w.heap.size w w'
 | 5 => True
 | 7 => True
 | _ => w' = w
def DownIH (v : V) : Prop:=∀ x ∈ v.list,∀ (k : Int) (t : ByteArray) (i : Int) (r : Nat) (f : Bool) (a : Option Addr) (n cap : Nat) (d : Int) (w : World),DownH x k t i r f a n cap d w ->
   Calls Tryz.prog 31 #[.agg #[.int .i64 k,.string t,.int .i64 i,.float .f64 r,.bool f,.slice a n cap]] w (Fd x w)
namespace R2
set_option maxRecDepth 100000 in
set_option maxHeartbeats 6400000 in
theorem Fv {K : Int} (hK : K = 5 \/ K = 12 \/ K = 13 \/ K = 14) {v : V} (ih : DownIH v) {t : ByteArray} {i : Int} {r : Nat} {f : Bool} {a : Option Addr} {n cap : Nat} {d : Int} {w : World} (hp : DownH v K t i r f a n cap d w) :
   Calls Tryz.prog 31 #[.agg #[.int .i64 K,.string t,.int .i64 i,.float .f64 r,.bool f,.slice a n cap]] w (Fd v w):=by
 have h7 : (K == 7) = false:=by simp; omega
 have h8 : (K == 8) = false:=by simp; omega
 have h9 : (K == 9) = false:=by simp; omega
 have h10 : (K == 10) = false:=by simp; omega
 have h11 : (K == 11) = false:=by simp; omega
 have n7 : ¬ K = 7:=by omega
 have n8 : ¬ K = 8:=by omega
 have n9 : ¬ K = 9:=by omega
 have n10 : ¬ K = 10:=by omega
 have n11 : ¬ K = 11:=by omega
 replace hK:=Hd hK
 replace ih:=Hd ih
 obtain ⟨ek,et,ei,er,ef,en⟩:=hp.val.len
 have hra:=(V.ranged_eq v).1 hp.ranged
 have hLv:=hp.laid
 obtain ⟨W2,hW2⟩ : ∃ W2,W2 = (w.alloc (.cells #[.int .i64 K,.string t,.int .i64 i,.float .f64 r,.bool f,.slice a n cap] 26)).alloc (.cells #[.int .i64 0,.string ⟨#[]⟩,.int .i64 0,.float .f64 0,.bool false,.slice none 0 0] 26):=⟨_,rfl⟩
 have hb2 : Below w.heap.size w W2:=by rw [hW2]; exact ((Below.refl _ _).alloc (Nat.le_refl _) _).alloc (by simp) _
 have hs2 : W2.heap.size = w.heap.size + 2:=by rw [hW2]; simp
 have hB : ∀ q u,#[.int .i64 K,.string t,.int .i64 i,.float .f64 r,.bool f,.slice a n cap][q]? = some u -> W2.cell? ⟨w.heap.size,q,none⟩ = some u:=fun q u h => by rw [hW2,World.cell?_alloc_past _ _ _ (by simp),World.cell?_alloc_new]; exact h
 have hrC : W2.rangeAt (w.heap.size + 1) 0 [.int .i64 0,.string ⟨#[]⟩,.int .i64 0,.float .f64 0,.bool false,.slice none 0 0]:=fun q u h => by
   rw [Nat.zero_add,hW2,show w.heap.size + 1 = (w.alloc (.cells #[.int .i64 K,.string t,.int .i64 i,.float .f64 r,.bool f,.slice a n cap] 26)).heap.size by simp,World.cell?_alloc_new]; simpa using h
 have hfC : Blk W2 (w.heap.size + 1):=by rw [hW2,show w.heap.size + 1 = (w.alloc (.cells #[.int .i64 K,.string t,.int .i64 i,.float .f64 r,.bool f,.slice a n cap] 26)).heap.size by simp]; exact Blk.new _ _ _
 have hcl:=hfC.lt
 have e0:=hB 0 _ rfl
 have e1:=hB 1 _ rfl
 have e2:=hB 2 _ rfl
 have e3:=hB 3 _ rfl
 have e4:=hB 4 _ rfl
 have e5:=hB 5 _ rfl
 clear hB
 replace hW2:=Hd hW2
 replace hb2:=Hd hb2
 replace hs2:=Hd hs2
 replace hrC:=Hd hrC
 replace hfC:=Hd hfC
 replace ek:=Hd ek
 replace et:=Hd et
 replace ei:=Hd ei
 replace er:=Hd er
 replace ef:=Hd ef
 replace en:=Hd en
 replace hra:=Hd hra
 replace hLv:=Hd hLv
 replace hp:=Hd hp
 go_enter Tryz.func31,Tryz.ntmps31
 go_upto_region 1 with fail
 rw [<- hW2.out]
 have hdn : v.down = .mk 5 ⟨#[]⟩ 0 0 false (v.list.map V.down):=by
   have hk:=ek.out;have hK:=hK.out;rw [V.down_eq,if_neg (by omega),if_neg (by omega),if_neg (by omega),if_neg (by omega),if_neg (by omega),if_pos (by omega)]
 have hfe:=hp.out.fine
 rw [V.fine_eq,Bool.and_eq_true] at hfe
 have hn9 : n <= 100000:=by
   have h1:=hp.out.count;have h2:=V.length_le v.list;have h3:=v.count_eq;have h4:=en.out;omega
 replace hdn:=Hd hdn
 replace hfe:=Hd hfe
 obtain ⟨W3,hW3⟩ : ∃ W3,W3 = W2.alloc (.cells #[.int .i64 5,.string ⟨#[]⟩,.int .i64 0,.float .f64 0,.bool false,.slice none 0 0] 26):=⟨_,rfl⟩
 obtain ⟨D,hD⟩ : ∃ D,W2.heap.size = D:=⟨_,rfl⟩
 have hb3 : Below D W2 W3:=by rw [hW3,<- hD]; exact (Below.refl _ _).alloc (Nat.le_refl _) _
 have hrg : W3.rangeAt D 0 [.int .i64 5,.string ⟨#[]⟩,.int .i64 0,.float .f64 0,.bool false,.slice none 0 0]:=by
   rw [hW3,<- hD]; intro q u hq; rw [Nat.zero_add,World.cell?_alloc_new]; simpa using hq
 have hbk : Blk W3 D:=by rw [hW3,<- hD]; exact Blk.new _ _ _
 have hs3 : W3.heap.size = D + 1:=by rw [hW3,<- hD]; simp
 have e5' : (W2.alloc (.cells #[.int .i64 5,.string ⟨#[]⟩,.int .i64 0,.float .f64 0,.bool false,.slice none 0 0] 26)).cell? ⟨w.heap.size,5,none⟩ = some (.slice a n cap):=by
   rw [<- hW3]; exact (hb3.cell (show w.heap.size < D by have:=hs2.out; omega)).trans e5
 replace hW3:=Hd hW3
 replace hb3:=Hd hb3
 replace hrg:=Hd hrg
 replace hbk:=Hd hbk
 replace hs3:=Hd hs3
 replace hD:=Hd hD
 clear e1 e2 e3 e4
 go_upto_if 44 with fail
 go_cut [44] from 44 to 48 (fun s44 wx => s44 = .bool true /\ wx = W2)
 case first =>
   obtain rfl | rfl | rfl | rfl:=hK.out;all_goals
     go_wp2_with fail
     go_meet
     exact ⟨rfl,rfl⟩
 obtain ⟨rfl,hww⟩:=hcut
 obtain rfl:=hww.symm
 clear hww
 go_wp2_with fail
 rw [<- hW3.out,hD.out]
 rw [hD.out] at hcl
 have hs2':=hs2.out
 rw [hD.out] at hs2'
 go_loopw [53] (fun q wr => ∃ (j : Nat) (lv : Value) (css : List (List Value)),j <= n /\ q = .int .i64 j /\ wr.ownsRow (D + 1) 26 6 lv j css.flatten /\ RVs (nf (D + 1) lv.ownBlock wr) css ((v.list.take j).map V.down) /\
     wr.rangeAt D 0 [.int .i64 5,.string ⟨#[]⟩,.int .i64 0,.float .f64 0,.bool false,lv] /\ Blk wr D /\ Below D W2 wr /\ D + 1 <= wr.heap.size) (fun q _ => n - (intOf q).toNat)
 case atStart => exact ⟨0,_,[],Nat.zero_le _,rfl,World.ownsRow_nil _ _ _ _,RVs.nil _,hrg.out,hbk.out,hb3.out,by have:=hs3.out; omega⟩
 case round =>
   obtain ⟨j,lv,css,hj,rfl,hown,hrs,hr,hk,hbel,hsz⟩:=hrel;clear hrg hbk hb3 hs3 e0 e5 e5';have hbw : Below w.heap.size w wr:=hb2.out.trans (hbel.mono (by omega));by_cases hlt : j < n
   · have hlti : (j : Int) < (n : Int):=by omega
     have hvw:=hp.out.val.mono (Aa hbw);rw [show Ae K t i r f a n cap = Ae v.kind v.text v.int v.real v.flag a n cap by rw [<- ek.out,<- et.out,<- ei.out,<- er.out,<- ef.out]] at hvw;obtain ⟨x,bb,o,ax,cx,hxj,hmem,rfl,hx,d0,d1,d2,d3,d4,d5⟩:=hvw.elem' hlt;have hts : v.list.take (j + 1) = v.list.take j ++ [x]:=by
       obtain ⟨h1,h2⟩:=List.getElem?_eq_some_iff.1 hxj;rw [List.take_succ_eq_append_getElem h1,h2]
     obtain ⟨ae,ce,rfl⟩:=(Reads.of_owns hown).shape;obtain ⟨W4,hW4⟩ : ∃ W4,W4 = wr.alloc (.cells #[.int .i64 x.kind,.string x.text,.int .i64 x.int,.float .f64 x.real,.bool x.flag,.slice ax x.list.length cx] 26):=⟨_,rfl⟩;have hb4 : Below wr.heap.size wr W4:=by rw [hW4]; exact (Below.refl _ _).alloc (Nat.le_refl _) _
     have hs4 : W4.heap.size = wr.heap.size + 1:=by rw [hW4]; simp
     have hr6 : W4.rangeAt wr.heap.size 0 [.int .i64 x.kind,.string x.text,.int .i64 x.int,.float .f64 x.real,.bool x.flag,.slice ax x.list.length cx]:=by
       rw [hW4]; intro q u hq; rw [Nat.zero_add,World.cell?_alloc_new]; simpa using hq
     have hrow:=Ei hown (Fr.of_below hb4) (fun k hk hle => by have:=(Au hown k hk).2; omega);have hrvs:=hrs.mono (nf_below (B:=D + 1) (own:=(Value.slice ae j ce).ownBlock) hb4);have hrD:=Ab hb4 hr;have hblk:=hk.of_block (hb4.block D (by omega));have hc5 : W4.cell? ⟨D,5,none⟩ = some (.slice ae j ce):=by have:=hrD 5 _ rfl; simpa using this
     have hDl : D < W4.heap.size:=by omega
     have hDs : D + 1 <= W4.heap.size:=by omega
     have hDo : ¬ (Value.slice ae j ce).ownBlock = some D:=fun e => by have:=(Au hrow D e).1; omega
     have hbel4 : Below D W2 W4:=hbel.trans (hb4.mono (by omega));have hlv4 : LaidV W4.heap.size W4:=((hLv.out.below (hbw.trans (hb4.mono hbw.size)) (Nat.le_refl _)).mono (by have:=hbw.size; omega));have hih : ∀ wx,Below W4.heap.size W4 wx -> Calls Tryz.prog 31 #[.agg #[.int .i64 x.kind,.string x.text,.int .i64 x.int,.float .f64 x.real,.bool x.flag,.slice ax x.list.length cx]] wx (Fd x wx):=fun wx hI =>
       ih.out x hmem _ _ _ _ _ _ _ _ (d - 1) wx ⟨(hx.mono (Aa hb4)).mono (Aa hI),A4 hfe.out.2 x hmem,V.rangedL_mem hra.out.2.2.2 x hmem,by
         have h1:=V.count_mem hmem;have h2:=hp.out.count;have h3:=v.count_eq;omega,(hlv4.below hI (Nat.le_refl _)).mono hI.size⟩
     have hjn9 : j + 1 < 1000000000:=by omega
     replace hW4:=Hd hW4;replace hih:=Hd hih;replace hrow:=Hd hrow;replace hrvs:=Hd hrvs;replace hts:=Hd hts;clear hown hrs hr hk hbel hx hvw hb4;replace hr6:=Hd hr6;replace hrD:=Hd hrD;replace hc5:=Hd hc5;go_upto_region 23 with fail
     rw [<- hW4.out];replace hih:=hih.out;replace hrow:=hrow.out;replace hrvs:=hrvs.out;replace hr6:=hr6.out;replace hrD:=hrD.out;replace hc5:=hc5.out;obtain ⟨pre,hpre⟩ : ∃ pre,pre = (v.list.take j).map V.down:=⟨_,rfl⟩;rw [<- hpre] at hrvs
     refine wp_region_rely (l:=[_,_,_,_,_,_,_,_]) (fun _ => True) (Below W4.heap.size W4) dlR (fun kG_ => ([fun v _ => v = .pointer (some ⟨D,5,none⟩),fun v _ => v = .slice ae j ce,fun v _ => v = .agg #[.int .i64 x.kind,.string x.text,.int .i64 x.int,.float .f64 x.real,.bool x.flag,.slice ax x.list.length cx],fun v w => ∃ (a1 : Option Addr) (c1 : Nat),v = .agg #[.int .i64 x.down.kind,.string x.down.text,.int .i64 x.down.int,.float .f64 x.down.real,.bool x.down.flag,.slice a1 x.down.list.length c1] /\ RV (Bp W4.heap.size w) (Ae x.down.kind x.down.text x.down.int x.down.real x.down.flag a1 x.down.list.length c1) x.down,fun v w => ∃ (b : Nat) (a1 : Option Addr) (c1 : Nat),v = .slice (some ⟨b,0,none⟩) 1 1 /\ w.heap[b]? = some (.cells #[.int .i64 x.down.kind,.string x.down.text,.int .i64 x.down.int,.float .f64 x.down.real,.bool x.down.flag,.slice a1 x.down.list.length c1] 26 (0,0)) /\ RV (Bp W4.heap.size w) (Ae x.down.kind x.down.text x.down.int x.down.real x.down.flag a1 x.down.list.length c1) x.down,fun v w => DApp D W4 (.slice ae j ce) j css pre x.down v w,fun v _ => v = .pointer (some ⟨D,5,none⟩),fun v w => ∃ (v1 : Value) (w1 : World),w = w1.setCell ⟨D,5,none⟩ v1 /\ DApp D W4 (.slice ae j ce) j css pre x.down v1 w1] : List (Value -> World -> Prop)).getD kG_ (fun _ _ => True)) (eats [(4,3),(5,4),(7,5)]) (isIn [5,7]) (by kernel_rfl) (by kernel_rfl) (by kernel_rfl) trivial ((Below.refl _ _).drew) ?_ ?_ ?_ ?_
     · intro i kG_ u w w' hne hE hg hr
       rcases kG_ with _ | _ | _ | _ | _ | _ | _ | _ | kG_
       · exact hg
       · exact hg
       · exact hg
       · replace hg : (fun (v : Value) (w : World) => ∃ (a1 : Option Addr) (c1 : Nat),v = .agg #[.int .i64 x.down.kind,.string x.down.text,.int .i64 x.down.int,.float .f64 x.down.real,.bool x.down.flag,.slice a1 x.down.list.length c1] /\ RV (Bp W4.heap.size w) (Ae x.down.kind x.down.text x.down.int x.down.real x.down.flag a1 x.down.list.length c1) x.down) u w:=hg
         show (fun (v : Value) (w : World) => ∃ (a1 : Option Addr) (c1 : Nat),v = .agg #[.int .i64 x.down.kind,.string x.down.text,.int .i64 x.down.int,.float .f64 x.down.real,.bool x.down.flag,.slice a1 x.down.list.length c1] /\ RV (Bp W4.heap.size w) (Ae x.down.kind x.down.text x.down.int x.down.real x.down.flag a1 x.down.list.length c1) x.down) u w';dsimp only at hg ⊢;replace hE : exB _ _ i 3 = false:=hE;replace hne : 3 ≠ i:=hne;unfold dlR at hr;split at hr
         all_goals first
           | exact absurd rfl hne
           | exact absurd (hE.symm.trans (by decide +kernel : exB _ _ _ _ = true)) (by decide)
           | (subst hr; exact hg)
           | ((obtain ⟨a1,c1,h1,h2⟩:=hg; exact ⟨a1,c1,h1,h2.mono (C4 hr)⟩))
       · replace hg : (fun (v : Value) (w : World) => ∃ (b : Nat) (a1 : Option Addr) (c1 : Nat),v = .slice (some ⟨b,0,none⟩) 1 1 /\ w.heap[b]? = some (.cells #[.int .i64 x.down.kind,.string x.down.text,.int .i64 x.down.int,.float .f64 x.down.real,.bool x.down.flag,.slice a1 x.down.list.length c1] 26 (0,0)) /\ RV (Bp W4.heap.size w) (Ae x.down.kind x.down.text x.down.int x.down.real x.down.flag a1 x.down.list.length c1) x.down) u w:=hg
         show (fun (v : Value) (w : World) => ∃ (b : Nat) (a1 : Option Addr) (c1 : Nat),v = .slice (some ⟨b,0,none⟩) 1 1 /\ w.heap[b]? = some (.cells #[.int .i64 x.down.kind,.string x.down.text,.int .i64 x.down.int,.float .f64 x.down.real,.bool x.down.flag,.slice a1 x.down.list.length c1] 26 (0,0)) /\ RV (Bp W4.heap.size w) (Ae x.down.kind x.down.text x.down.int x.down.real x.down.flag a1 x.down.list.length c1) x.down) u w';dsimp only at hg ⊢;replace hE : exB _ _ i 4 = false:=hE;replace hne : 4 ≠ i:=hne;unfold dlR at hr;split at hr
         all_goals first
           | exact absurd rfl hne
           | exact absurd (hE.symm.trans (by decide +kernel : exB _ _ _ _ = true)) (by decide)
           | (subst hr; exact hg)
           | ((obtain ⟨b,a1,c1,h1,h2,h3⟩:=hg; exact ⟨b,a1,c1,h1,(hr.block b (Array.getElem?_eq_some_iff.1 h2).1).trans h2,h3.mono (C4 hr)⟩))
       · replace hg : (fun (v : Value) (w : World) => DApp D W4 (.slice ae j ce) j css pre x.down v w) u w:=hg
         show (fun (v : Value) (w : World) => DApp D W4 (.slice ae j ce) j css pre x.down v w) u w';dsimp only at hg ⊢;replace hE : exB _ _ i 5 = false:=hE;replace hne : 5 ≠ i:=hne;unfold dlR at hr;split at hr
         all_goals first
           | exact absurd rfl hne
           | exact absurd (hE.symm.trans (by decide +kernel : exB _ _ _ _ = true)) (by decide)
           | (subst hr; exact hg)
           | (fail)
       · exact hg
       · replace hg : (fun (v : Value) (w : World) => ∃ (v1 : Value) (w1 : World),w = w1.setCell ⟨D,5,none⟩ v1 /\ DApp D W4 (.slice ae j ce) j css pre x.down v1 w1) u w:=hg
         show (fun (v : Value) (w : World) => ∃ (v1 : Value) (w1 : World),w = w1.setCell ⟨D,5,none⟩ v1 /\ DApp D W4 (.slice ae j ce) j css pre x.down v1 w1) u w';dsimp only at hg ⊢;replace hE : exB _ _ i 7 = false:=hE;replace hne : 7 ≠ i:=hne;unfold dlR at hr;split at hr
         all_goals first
           | exact absurd rfl hne
           | exact absurd (hE.symm.trans (by decide +kernel : exB _ _ _ _ = true)) (by decide)
           | (subst hr; exact hg)
           | (fail)
       · trivial
     · intro jj w6 w7 hF hI hr
       unfold dlR at hr;split at hr
       · exact hI.trans (hr.mono hI.size)
       · exact hI.trans (hr.mono hI.size)
       · exact absurd hF (by decide)
       · exact absurd hF (by decide)
       · subst hr; exact hI
     · refine ⟨?_,?_,?_,?_,?_,?_,?_,?_,trivial⟩
       · refine VC.plain rfl fun a wx hf => ?_
         have s4:=hf.old 4 (by first | rfl | kernel_rfl);have q4:=An s4;exact Ag (by simp [go_sem,q4]) ⟨hf.c,rfl,rfl⟩
       · refine VC.plain rfl fun a wx hf => ?_
         obtain ⟨v57,g57,s57⟩:=hf.got 0 (by kernel_rfl) (by intro j hj; simp [eats] at hj) rfl rfl;replace s57:=s57.trans (show v57 = .pointer (some ⟨D,5,none⟩) from g57);clear g57;have q57:=An s57;have hI:=hf.start (by kernel_rfl);exact Ag (by simp [go_sem,q57,hI.cell (p:=⟨D,5,none⟩) hDl,hc5]) ⟨trivial,rfl,rfl⟩
       · refine VC.plain rfl fun a wx hf => ?_
         have s6:=hf.old 6 (by first | rfl | kernel_rfl);have q6:=An s6;have hI:=hf.start (by kernel_rfl);exact A9 rfl s6 (Ab hI hr6) Tryz.underlying26 rfl Ac ⟨trivial,rfl,rfl⟩
       · refine VC.plain rfl fun a wx hf => ?_
         obtain ⟨v59,g59,s59⟩:=hf.got 2 (by kernel_rfl) (by intro j hj; simp [eats] at hj) rfl rfl;replace s59:=s59.trans (show v59 = .agg #[.int .i64 x.kind,.string x.text,.int .i64 x.int,.float .f64 x.real,.bool x.flag,.slice ax x.list.length cx] from g59);clear g59;have q59:=An s59;have hI:=hf.start (by kernel_rfl);exact Bh (f:=31) (args:=#[.agg #[.int .i64 x.kind,.string x.text,.int .i64 x.int,.float .f64 x.real,.bool x.flag,.slice ax x.list.length cx]]) (by simp [go_sem,q59]) ((hih wx hI).mono fun e w' ⟨a1,c1,he,h1,h2⟩ => ⟨_,he,trivial,h2,a1,c1,rfl,h1.mono (E5 hI.size)⟩)
       · refine VC.plain rfl fun a wx hf => ?_
         obtain ⟨v60,g60,s60⟩:=hf.got 3 (by kernel_rfl) (by intro j hj; simp [eats] at hj; omega) rfl rfl;have q60:=An s60;replace g60 : (fun (v : Value) (w : World) => ∃ (a1 : Option Addr) (c1 : Nat),v = .agg #[.int .i64 x.down.kind,.string x.down.text,.int .i64 x.down.int,.float .f64 x.down.real,.bool x.down.flag,.slice a1 x.down.list.length c1] /\ RV (Bp W4.heap.size w) (Ae x.down.kind x.down.text x.down.int x.down.real x.down.flag a1 x.down.list.length c1) x.down) v60 wx:=g60;dsimp only at g60;obtain ⟨a1,c1,rfl,h1⟩:=g60;have hal:=(Below.refl wx.heap.size wx).alloc (Nat.le_refl _) (.cells #[.int .i64 x.down.kind,.string x.down.text,.int .i64 x.down.int,.float .f64 x.down.real,.bool x.down.flag,.slice a1 x.down.list.length c1] 26)
         exact Ag (u:=.slice (some ⟨wx.heap.size,0,none⟩) 1 1) (w':=wx.alloc (.cells #[.int .i64 x.down.kind,.string x.down.text,.int .i64 x.down.int,.float .f64 x.down.real,.bool x.down.flag,.slice a1 x.down.list.length c1] 26)) (by simp [go_sem,q60,Tryz.underlying24]) ⟨trivial,(Below.refl _ _).alloc (Nat.le_refl _) _,wx.heap.size,a1,c1,rfl,(MapKept.heap_alloc wx _).1,h1.mono (C4 hal)⟩
       · refine VC.plain rfl fun a wx hf => ?_
         obtain ⟨v58,g58,s58⟩:=hf.got 1 (by kernel_rfl) (by intro j hj; simp [eats] at hj) rfl rfl;replace s58:=s58.trans (show v58 = .slice ae j ce from g58);clear g58;have q58:=An s58;obtain ⟨v61,g61,s61⟩:=hf.got 4 (by kernel_rfl) (by intro j hj; simp [eats] at hj; omega) rfl rfl;have q61:=An s61;replace g61 : (fun (v : Value) (w : World) => ∃ (b : Nat) (a1 : Option Addr) (c1 : Nat),v = .slice (some ⟨b,0,none⟩) 1 1 /\ w.heap[b]? = some (.cells #[.int .i64 x.down.kind,.string x.down.text,.int .i64 x.down.int,.float .f64 x.down.real,.bool x.down.flag,.slice a1 x.down.list.length c1] 26 (0,0)) /\ RV (Bp W4.heap.size w) (Ae x.down.kind x.down.text x.down.int x.down.real x.down.flag a1 x.down.list.length c1) x.down) v61 wx:=g61;dsimp only at g61;have hI:=hf.start (by kernel_rfl);obtain ⟨b,a1,c1,rfl,hbk,hrv⟩:=g61;have hIs:=hI.size
         have hown1 : wx.ownsRow (D + 1) 26 6 (.slice ae j ce) j css.flatten:=Ei hrow (Fr.of_below hI) (fun k hk hle => by have:=(Au hrow k hk).2; omega);have hvs1:=hrvs.mono (nf_below (B:=D + 1) (own:=(Value.slice ae j ce).ownBlock) hI);have hx1:=hrv.mono (nf_of_newer (B:=D + 1) (own:=(Value.slice ae j ce).ownBlock) hDs (fun k hk => (Au hrow k hk).2));refine gives_append rfl eVal s58 hown1 s61 (Gn hbk rfl) (fun h => by cases h) (by simp [Value.oneCell']) hjn9 (by omega) (fun v' w' h1 h2 h3 => ?_);refine ⟨trivial,trivial,a1,c1,Fr.trans ((Fr.of_below hI).mono (fun i hi hle => absurd hle (by omega))) h2,?_,(hvs1.snoc hx1).mono (nf_append h2 h3)⟩;simpa [Ae] using h1
       · refine VC.plain rfl fun a wx hf => ?_
         have s4:=hf.old 4 (by first | rfl | kernel_rfl);have q4:=An s4;exact Ag (by simp [go_sem,q4]) ⟨hf.c,rfl,rfl⟩
       · refine VC.plain rfl fun a wx hf => ?_
         obtain ⟨v63,g63,s63⟩:=hf.got 6 (by kernel_rfl) (by intro j hj; simp [eats] at hj) rfl rfl;replace s63:=s63.trans (show v63 = .pointer (some ⟨D,5,none⟩) from g63);clear g63;have q63:=An s63;obtain ⟨v62,g62,s62⟩:=hf.got 5 (by kernel_rfl) (by intro j hj; simp [eats] at hj; omega) rfl rfl;have q62:=An s62;replace g62 : (fun (v : Value) (w : World) => DApp D W4 (.slice ae j ce) j css pre x.down v w) v62 wx:=g62;dsimp only at g62;obtain ⟨a1,c1,h1,h2,h3⟩:=g62;obtain ⟨a31,c31,rfl⟩:=(Reads.of_owns h2).shape;exact Gg (w':=wx.setCell ⟨D,5,none⟩ _) (by simp [go_sem,q62,q63,h1.cell (p:=⟨D,5,none⟩) hc5 hDo,(hblk.fr h1 hDo).frz 5 none]) ⟨trivial,trivial,_,wx,rfl,a1,c1,h1,h2,h3⟩
     · intro vs w5 _ hG
       obtain ⟨v1,w6,e,a1,c1,g1,g2,g3⟩:=hG 7 (by decide) (by decide);clear hG;subst e;obtain ⟨a8,c8,rfl⟩:=(Reads.of_owns g2).shape;obtain ⟨W9,hW9⟩ : ∃ W9,W9 = w6.setCell ⟨D,5,none⟩ (.slice a8 (j + 1) c8):=⟨_,rfl⟩;have hfD : Fr (fun k => k = D) w6 W9:=by rw [hW9]; exact Fr.setCell (S:=fun k => k = D) (Fr.refl _ _) (fun _ => rfl) _
       have hk0 : ∀ q u,q ≠ 5 -> W4.cell? ⟨D,q,none⟩ = some u -> W9.cell? ⟨D,q,none⟩ = some u:=fun q u hq hu => by
         rw [hW9,Af (fun e => hq (congrArg Addr.off e).symm)]; exact g1.cell hu hDo
       have hRn : W9.rangeAt D 0 [.int .i64 5,.string ⟨#[]⟩,.int .i64 0,.float .f64 0,.bool false,.slice a8 (j + 1) c8]:=
         Bt (hk0 _ _ (by omega) (by simpa using hrD 0 _ rfl)) (hk0 _ _ (by omega) (by simpa using hrD 1 _ rfl)) (hk0 _ _ (by omega) (by simpa using hrD 2 _ rfl)) (hk0 _ _ (by omega) (by simpa using hrD 3 _ rfl)) (hk0 _ _ (by omega) (by simpa using hrD 4 _ rfl)) (by rw [hW9]; exact As (g1.cell hc5 hDo))
       have hBn : Blk W9 D:=by rw [hW9]; exact (hblk.fr g1 hDo).setCell _ _
       have hown9 : W9.ownsRow (D + 1) 26 6 (.slice a8 (j + 1) c8) (j + 1) (css ++ [Ae x.down.kind x.down.text x.down.int x.down.real x.down.flag a1 x.down.list.length c1]).flatten:=by
         rw [List.flatten_append];simpa using Ei g2 hfD (fun k hk e => by have:=(Au g2 k hk).1; omega)
       have hvs9:=g3.mono (fun ad u h => let ⟨h1,h2,h3⟩:=E3 h; nf_mk (w:=W9) (hfD.cell h1 (fun e => by omega)) h2 h3);have hs6:=g1.size;have hs9:=hfD.size;have hbn : Below D W2 W9:=hbel4.trans ((g1.below (by omega) (fun k hk e => by have:=(Au hrow k e).1; omega)).trans (hfD.below (by omega) (fun k hk e => by omega)));have hz9 : D + 1 <= W9.heap.size:=by omega
       have e9 : (v.list.take (j + 1)).map V.down = pre ++ [x.down]:=by rw [hts.out,List.map_append,hpre]; rfl
       rw [<- e9] at hvs9;rw [<- hW9];replace hW9:=Hd hW9;replace hRn:=Hd hRn;replace hBn:=Hd hBn;replace hown9:=Hd hown9;replace hvs9:=Hd hvs9;replace hbn:=Hd hbn;clear hk0 g1 g2 g3 hfD hc5 hDo hrow hrvs hblk hih hrD hr6 hs6 hs9 hbel4 hlv4 hbw d0 d1 d2 d3 d4 d5;simp only [putFrom,Act.put,List.setIfInBounds_toArray,List.set_cons_zero,List.set_cons_succ];go_wp2_with fail
       go_roundw
       case rel => exact ⟨j + 1,_,_,by omega,by go_num,hown9.out,hvs9.out,hRn.out,hBn.out,hbn.out,hz9⟩
       case measure => simp [intOf]; omega
   · obtain rfl : j = n:=by omega
     have hjl : (v.list.take j).map V.down = v.list.map V.down:=by rw [List.take_of_length_le (by rw [<- en.out]; exact Nat.le_refl _)]
     rw [hjl] at hrs;obtain ⟨a3,c3,rfl⟩:=(Reads.of_owns hown).shape;have hbel2 : Below W2.heap.size W2 wr:=by rw [hD.out]; exact hbel
     have htC:=Az (n:=6) (Ab hbel2 hrC.out) (hfC.out.of_block (hbel.block _ hcl)) rfl;have hfin : Fr (fun k => k = w.heap.size + 1) wr (wr.setCells (w.heap.size + 1) 0 [.int .i64 5,.string ⟨#[]⟩,.int .i64 0,.float .f64 0,.bool false,.slice a3 j c3]):=Fr.setCells (S:=fun k => k = w.heap.size + 1) (fun _ => rfl) _ _ _ (Fr.refl _ wr);have hrR : (wr.setCells (w.heap.size + 1) 0 [.int .i64 5,.string ⟨#[]⟩,.int .i64 0,.float .f64 0,.bool false,.slice a3 j c3]).rangeAt (w.heap.size + 1) 0 [.int .i64 5,.string ⟨#[]⟩,.int .i64 0,.float .f64 0,.bool false,.slice a3 j c3]:=World.rangeAt_setCells_same _ _ _ _ htC;replace hown:=Hd hown;replace hrs:=Hd hrs;replace hr:=Hd hr;replace htC:=Hd htC;replace hrR:=Hd hrR;replace hfin:=Hd hfin;replace hbel:=Hd hbel;clear hbel2;go_wp2_with (first
       | (refine wpList_load_mid rfl 26 _ rfl D 0 rfl _ _ hr.out Tryz.underlying26 rfl Ac ?_)
       | (refine wpList_store_mid rfl 26 _ _ rfl (w.heap.size + 1) 0 _ rfl rfl htC.out Ac (one6 _ _ _ _ _ _ _ _) ?_))
     refine bodyPost_ret (Ax (v:=.agg #[.int .i64 5,.string ⟨#[]⟩,.int .i64 0,.float .f64 0,.bool false,.slice a3 j c3]) rfl rfl (run_loadVar_mid (P:=Tryz.prog) _ _ 0 26 _ _ hrR.out Tryz.underlying26 rfl Ac)) rfl ?_;have hll : (v.list.map V.down).length = j:=by rw [List.length_map,<- en.out]
     have hrv:=RV.of_row (v:=.mk 5 ⟨#[]⟩ 0 0 false (v.list.map V.down)) hll.symm (Ei hown.out hfin.out (fun q hq e => by have:=(Au hown.out q hq).1; omega)) ((hrs.out.mono (fun ad u h => let ⟨h1,h2,h3⟩:=E3 h; nf_mk (hfin.out.cell h1 (fun e => by omega)) h2 h3)).mono nf_newer);refine ⟨a3,c3,?_,?_,(hb2.out.trans (hbel.out.mono (by omega))).trans (hfin.out.below (by have:=hbel.out.size; omega) (fun q hq e => by omega))⟩
     · rw [hdn.out]
       show _ = Ending.returned (.agg #[.int .i64 5,.string ⟨#[]⟩,.int .i64 0,.float .f64 0,.bool false,.slice a3 (v.list.map V.down).length c3]);rw [hll]
     · rw [hdn.out]
       show RV _ (Ae 5 ⟨#[]⟩ 0 0 false a3 (v.list.map V.down).length c3) _;rw [hll];exact hrv.mono (E5 (by omega))
theorem down_any (v : V) : ∀ (k : Int) (t : ByteArray) (i : Int) (r : Nat) (f : Bool) (a : Option Addr) (n cap : Nat) (d : Int) (w : World),DownH v k t i r f a n cap d w ->
   Calls Tryz.prog 31 #[.agg #[.int .i64 k,.string t,.int .i64 i,.float .f64 r,.bool f,.slice a n cap]] w (Fd v w):=by
 induction v using V.ind with
 | h v ih =>
 intro k t i r f a n cap d w hp
 have hk : 1 <= k /\ k <= 14:=by
   have hfe:=hp.fine;rw [V.fine_eq,Bool.and_eq_true,Bool.and_eq_true] at hfe;rw [hp.val.len.1];exact (Ak hfe.1.1).kind
 rcases (by omega : k = 1 \/ k = 2 \/ k = 9 \/ k = 3 \/ k = 7 \/ k = 8 \/ k = 6 \/ k = 4 \/ k = 10 \/ k = 11 \/ k = 12 \/ k = 5 \/ k = 13 \/ k = 14) with rfl | rfl | rfl | rfl | rfl | rfl | rfl | rfl | rfl | rfl | rfl | rfl | rfl | rfl
 · exact Ep (by omega) hp
 · exact Ep (by omega) hp
 · exact down_9 hp
 · exact Ep (by omega) hp
 · exact down_7 hp
 · exact down_8 hp
 · exact Ep (by omega) hp
 · exact Ep (by omega) hp
 · exact down_10 hp
 · exact down_11 hp
 · exact Fv (by omega) ih hp
 · exact Fv (by omega) ih hp
 · exact Fv (by omega) ih hp
 · exact Fv (by omega) ih hp
end R2
end Go.Proofs.YtagkgfniihiinaaGreatDoor
