/- nearhandref04.Bytes: a value's bytes, in any protocol. -/
import Derived.Test.YtagkgfniihiinaaGreatDoorRDown
import Derived.Test.YtagkgfniihiinaaGreatDoorBytes2
namespace Go.Proofs.YtagkgfniihiinaaGreatDoor
open Go.RowKit Go.Joins
theorem V.down_down (v : V) : v.down.down = v.down:=by
 induction v using V.ind with
 | h v ih =>
 rw [V.down_eq v];split
 · exact V.down_eq _
 split
 · exact V.down_eq _
 split
 · exact V.down_eq _
 split
 · exact V.down_eq _
 split
 · exact V.down_eq _
 split
 · rw [V.down_eq]
   show (V.mk 5 ⟨#[]⟩ 0 0 false ((v.list.map V.down).map V.down)) = _;rw [List.map_map];congr 1;exact List.map_congr_left fun x hx => ih x hx
 · rename_i h1 h2 h3 h4 h5 h6
   rw [V.down_eq,if_neg h1,if_neg h2,if_neg h3,if_neg h4,if_neg h5,if_neg h6]
def Ds (p : Int) (v : V) : Prop:=∀ (k : Int) (t : ByteArray) (i : Int) (r : Nat) (f : Bool) (a : Option Addr) (n cap : Nat) (d : Int) (w : World),RDownH v k t i r f a n cap d w ->
   Calls Tryz.prog 22 #[.agg #[.int .i64 k,.string t,.int .i64 i,.float .f64 r,.bool f,.slice a n cap],.int .i64 p] w fun e w' => e = .returned (.string ⟨(Ad v p).toArray⟩) /\ Below w.heap.size w w'
theorem Bi {X : ByteArray} {l : List UInt8} (h : X.data.toList = l) : (⟨l.toArray⟩ : ByteArray) = X:=(D5 h).symm
theorem Bq (n : Int) : (Av n).data.toList = Lib.itoa n:=by simp [Av]
set_option maxRecDepth 100000 in
set_option maxHeartbeats 3200000 in
theorem rb3_1 {v : V} {t : ByteArray} {i : Int} {r : Nat} {f : Bool} {a : Option Addr} {n cap : Nat} {d : Int} {w : World} (hp : RDownH v 1 t i r f a n cap d w) :
   Calls Tryz.prog 22 #[.agg #[.int .i64 1,.string t,.int .i64 i,.float .f64 r,.bool f,.slice a n cap],.int .i64 3] w fun e w' => e = .returned (.string ⟨(Ad v 3).toArray⟩) /\ Below w.heap.size w w':=by
 have hpar:=Hd hp.par
 have hrng:=Hd hp.rng
 replace hp:=hp.d
 obtain ⟨ek,et,ei,er,ef,en⟩:=hp.val.len
 have hra:=(V.ranged_eq v).1 hp.ranged
 have hfe:=hp.fine
 rw [V.fine_eq,Bool.and_eq_true,Bool.and_eq_true] at hfe
 have hok:=Ak hfe.1.1
 obtain ⟨W1,hW1⟩ : ∃ W1,W1 = w.alloc (.cells #[.int .i64 1,.string t,.int .i64 i,.float .f64 r,.bool f,.slice a n cap] 26):=⟨_,rfl⟩
 have hb1 : Below w.heap.size w W1:=by rw [hW1]; exact (Below.refl _ _).alloc (Nat.le_refl _) _
 have hB : ∀ q u,#[.int .i64 1,.string t,.int .i64 i,.float .f64 r,.bool f,.slice a n cap][q]? = some u -> W1.cell? ⟨w.heap.size,q,none⟩ = some u:=fun q u h => by rw [hW1,World.cell?_alloc_new]; exact h
 have c0:=hB 0 _ rfl
 have c1:=hB 1 _ rfl
 have c2:=hB 2 _ rfl
 have c3:=hB 3 _ rfl
 have c4:=hB 4 _ rfl
 have c5:=hB 5 _ rfl
 have hs1 : W1.heap.size = w.heap.size + 1:=by rw [hW1]; simp
 clear hB
 have hLX : LaidV W1.heap.size W1:=(hp.laid.below hb1 (Nat.le_refl _)).mono hb1.size
 have hpX : Par W1:=hpar.out.below hb1
 have hrX : Rng W1:=hrng.out.below hb1
 have hvX:=hp.val.mono (Aa hb1)
 have htz : t.size <= 4096:=by rw [et]; exact hok.size
 have hi9 : -9223372036854775808 <= i /\ i <= 9223372036854775807:=by rw [ei]; exact ⟨hra.1,hra.2.1⟩
 have hr9 : r < 18446744073709551616:=by rw [er]; exact hra.2.2.1
 have hbX:=hb1
 obtain ⟨WX,hWX⟩ : ∃ WX,WX = W1:=⟨_,rfl⟩
 rw [<- hWX] at c0 c1 c2 c3 c4 c5 hLX hpX hrX hvX hbX
 have hsX : w.heap.size < WX.heap.size:=by rw [hWX]; omega
 have hn0 : n = 0:=by rw [en,hok.list (by rw [<- ek]; decide)]; rfl
 subst hn0
 have htg : Hid ((⟨(Ad v 3).toArray⟩ : ByteArray) = (⟨#[43]⟩ : ByteArray) ++ t ++ ⟨#[13,10]⟩):=Hd (Bi (by
   rw [ByteArray.data_append,ByteArray.data_append,Array.toList_append,Array.toList_append,Ad,if_pos rfl,V.wire_eq,<- ek,if_pos (by decide),<- et]; rfl))
 replace hb1:=Hd hb1
 replace hW1:=Hd hW1
 replace hWX:=Hd hWX
 replace hs1:=Hd hs1
 replace hLX:=Hd hLX
 replace hpX:=Hd hpX
 replace hrX:=Hd hrX
 replace hvX:=Hd hvX
 replace hbX:=Hd hbX
 replace hfe:=Hd hfe
 replace hok:=Hd hok
 replace hp:=Hd hp
 replace ek:=Hd ek
 replace et:=Hd et
 replace ei:=Hd ei
 replace er:=Hd er
 replace ef:=Hd ef
 replace en:=Hd en
 replace hra:=Hd hra
 go_enter Tryz.func22,Tryz.ntmps22
 go_wp2_with fail
 rw [<- hW1.out,<- hWX.out]
 go_loopw [5,19] (fun s i wr => s = .string ⟨#[]⟩ /\ i = .int .i64 0 /\ wr = WX) (fun _ _ _ => 0)
 case atStart => exact ⟨rfl,rfl,rfl⟩
 case round =>
   obtain ⟨rfl,rfl,hww⟩:=hrel;obtain rfl:=hww.symm;clear hww;have l1 : ¬ 9223372036854775807 < 1 + t.size:=by omega
   have l2 : ¬ 9223372036854775807 < 1 + t.size + 2:=by omega
   go_wp2;go_ret;exact ⟨by rw [htg.out]; rfl,hbX.out⟩
set_option maxRecDepth 100000 in
set_option maxHeartbeats 3200000 in
theorem rb3_2 {v : V} {t : ByteArray} {i : Int} {r : Nat} {f : Bool} {a : Option Addr} {n cap : Nat} {d : Int} {w : World} (hp : RDownH v 2 t i r f a n cap d w) :
   Calls Tryz.prog 22 #[.agg #[.int .i64 2,.string t,.int .i64 i,.float .f64 r,.bool f,.slice a n cap],.int .i64 3] w fun e w' => e = .returned (.string ⟨(Ad v 3).toArray⟩) /\ Below w.heap.size w w':=by
 have hpar:=Hd hp.par
 have hrng:=Hd hp.rng
 replace hp:=hp.d
 obtain ⟨ek,et,ei,er,ef,en⟩:=hp.val.len
 have hra:=(V.ranged_eq v).1 hp.ranged
 have hfe:=hp.fine
 rw [V.fine_eq,Bool.and_eq_true,Bool.and_eq_true] at hfe
 have hok:=Ak hfe.1.1
 obtain ⟨W1,hW1⟩ : ∃ W1,W1 = w.alloc (.cells #[.int .i64 2,.string t,.int .i64 i,.float .f64 r,.bool f,.slice a n cap] 26):=⟨_,rfl⟩
 have hb1 : Below w.heap.size w W1:=by rw [hW1]; exact (Below.refl _ _).alloc (Nat.le_refl _) _
 have hB : ∀ q u,#[.int .i64 2,.string t,.int .i64 i,.float .f64 r,.bool f,.slice a n cap][q]? = some u -> W1.cell? ⟨w.heap.size,q,none⟩ = some u:=fun q u h => by rw [hW1,World.cell?_alloc_new]; exact h
 have c0:=hB 0 _ rfl
 have c1:=hB 1 _ rfl
 have c2:=hB 2 _ rfl
 have c3:=hB 3 _ rfl
 have c4:=hB 4 _ rfl
 have c5:=hB 5 _ rfl
 have hs1 : W1.heap.size = w.heap.size + 1:=by rw [hW1]; simp
 clear hB
 have hLX : LaidV W1.heap.size W1:=(hp.laid.below hb1 (Nat.le_refl _)).mono hb1.size
 have hpX : Par W1:=hpar.out.below hb1
 have hrX : Rng W1:=hrng.out.below hb1
 have hvX:=hp.val.mono (Aa hb1)
 have htz : t.size <= 4096:=by rw [et]; exact hok.size
 have hi9 : -9223372036854775808 <= i /\ i <= 9223372036854775807:=by rw [ei]; exact ⟨hra.1,hra.2.1⟩
 have hr9 : r < 18446744073709551616:=by rw [er]; exact hra.2.2.1
 have hbX:=hb1
 obtain ⟨WX,hWX⟩ : ∃ WX,WX = W1:=⟨_,rfl⟩
 rw [<- hWX] at c0 c1 c2 c3 c4 c5 hLX hpX hrX hvX hbX
 have hsX : w.heap.size < WX.heap.size:=by rw [hWX]; omega
 have hn0 : n = 0:=by rw [en,hok.list (by rw [<- ek]; decide)]; rfl
 subst hn0
 have htg : Hid ((⟨(Ad v 3).toArray⟩ : ByteArray) = (⟨#[45]⟩ : ByteArray) ++ t ++ ⟨#[13,10]⟩):=Hd (Bi (by
   rw [ByteArray.data_append,ByteArray.data_append,Array.toList_append,Array.toList_append,Ad,if_pos rfl,V.wire_eq,<- ek,if_pos (by decide),<- et]; rfl))
 replace hb1:=Hd hb1
 replace hW1:=Hd hW1
 replace hWX:=Hd hWX
 replace hs1:=Hd hs1
 replace hLX:=Hd hLX
 replace hpX:=Hd hpX
 replace hrX:=Hd hrX
 replace hvX:=Hd hvX
 replace hbX:=Hd hbX
 replace hfe:=Hd hfe
 replace hok:=Hd hok
 replace hp:=Hd hp
 replace ek:=Hd ek
 replace et:=Hd et
 replace ei:=Hd ei
 replace er:=Hd er
 replace ef:=Hd ef
 replace en:=Hd en
 replace hra:=Hd hra
 go_enter Tryz.func22,Tryz.ntmps22
 go_wp2_with fail
 rw [<- hW1.out,<- hWX.out]
 go_loopw [5,19] (fun s i wr => s = .string ⟨#[]⟩ /\ i = .int .i64 0 /\ wr = WX) (fun _ _ _ => 0)
 case atStart => exact ⟨rfl,rfl,rfl⟩
 case round =>
   obtain ⟨rfl,rfl,hww⟩:=hrel;obtain rfl:=hww.symm;clear hww;have l1 : ¬ 9223372036854775807 < 1 + t.size:=by omega
   have l2 : ¬ 9223372036854775807 < 1 + t.size + 2:=by omega
   go_wp2;go_ret;exact ⟨by rw [htg.out]; rfl,hbX.out⟩
set_option maxRecDepth 100000 in
set_option maxHeartbeats 3200000 in
theorem rb3_9 {v : V} {t : ByteArray} {i : Int} {r : Nat} {f : Bool} {a : Option Addr} {n cap : Nat} {d : Int} {w : World} (hp : RDownH v 9 t i r f a n cap d w) :
   Calls Tryz.prog 22 #[.agg #[.int .i64 9,.string t,.int .i64 i,.float .f64 r,.bool f,.slice a n cap],.int .i64 3] w fun e w' => e = .returned (.string ⟨(Ad v 3).toArray⟩) /\ Below w.heap.size w w':=by
 have hpar:=Hd hp.par
 have hrng:=Hd hp.rng
 replace hp:=hp.d
 obtain ⟨ek,et,ei,er,ef,en⟩:=hp.val.len
 have hra:=(V.ranged_eq v).1 hp.ranged
 have hfe:=hp.fine
 rw [V.fine_eq,Bool.and_eq_true,Bool.and_eq_true] at hfe
 have hok:=Ak hfe.1.1
 obtain ⟨W1,hW1⟩ : ∃ W1,W1 = w.alloc (.cells #[.int .i64 9,.string t,.int .i64 i,.float .f64 r,.bool f,.slice a n cap] 26):=⟨_,rfl⟩
 have hb1 : Below w.heap.size w W1:=by rw [hW1]; exact (Below.refl _ _).alloc (Nat.le_refl _) _
 have hB : ∀ q u,#[.int .i64 9,.string t,.int .i64 i,.float .f64 r,.bool f,.slice a n cap][q]? = some u -> W1.cell? ⟨w.heap.size,q,none⟩ = some u:=fun q u h => by rw [hW1,World.cell?_alloc_new]; exact h
 have c0:=hB 0 _ rfl
 have c1:=hB 1 _ rfl
 have c2:=hB 2 _ rfl
 have c3:=hB 3 _ rfl
 have c4:=hB 4 _ rfl
 have c5:=hB 5 _ rfl
 have hs1 : W1.heap.size = w.heap.size + 1:=by rw [hW1]; simp
 clear hB
 have hLX : LaidV W1.heap.size W1:=(hp.laid.below hb1 (Nat.le_refl _)).mono hb1.size
 have hpX : Par W1:=hpar.out.below hb1
 have hrX : Rng W1:=hrng.out.below hb1
 have hvX:=hp.val.mono (Aa hb1)
 have htz : t.size <= 4096:=by rw [et]; exact hok.size
 have hi9 : -9223372036854775808 <= i /\ i <= 9223372036854775807:=by rw [ei]; exact ⟨hra.1,hra.2.1⟩
 have hr9 : r < 18446744073709551616:=by rw [er]; exact hra.2.2.1
 have hbX:=hb1
 obtain ⟨WX,hWX⟩ : ∃ WX,WX = W1:=⟨_,rfl⟩
 rw [<- hWX] at c0 c1 c2 c3 c4 c5 hLX hpX hrX hvX hbX
 have hsX : w.heap.size < WX.heap.size:=by rw [hWX]; omega
 have hn0 : n = 0:=by rw [en,hok.list (by rw [<- ek]; decide)]; rfl
 subst hn0
 have htg : Hid ((⟨(Ad v 3).toArray⟩ : ByteArray) = (⟨#[40]⟩ : ByteArray) ++ t ++ ⟨#[13,10]⟩):=Hd (Bi (by
   rw [ByteArray.data_append,ByteArray.data_append,Array.toList_append,Array.toList_append,Ad,if_pos rfl,V.wire_eq,<- ek,if_pos (by decide),<- et]; rfl))
 replace hb1:=Hd hb1
 replace hW1:=Hd hW1
 replace hWX:=Hd hWX
 replace hs1:=Hd hs1
 replace hLX:=Hd hLX
 replace hpX:=Hd hpX
 replace hrX:=Hd hrX
 replace hvX:=Hd hvX
 replace hbX:=Hd hbX
 replace hfe:=Hd hfe
 replace hok:=Hd hok
 replace hp:=Hd hp
 replace ek:=Hd ek
 replace et:=Hd et
 replace ei:=Hd ei
 replace er:=Hd er
 replace ef:=Hd ef
 replace en:=Hd en
 replace hra:=Hd hra
 go_enter Tryz.func22,Tryz.ntmps22
 go_wp2_with fail
 rw [<- hW1.out,<- hWX.out]
 go_loopw [5,19] (fun s i wr => s = .string ⟨#[]⟩ /\ i = .int .i64 0 /\ wr = WX) (fun _ _ _ => 0)
 case atStart => exact ⟨rfl,rfl,rfl⟩
 case round =>
   obtain ⟨rfl,rfl,hww⟩:=hrel;obtain rfl:=hww.symm;clear hww;have l1 : ¬ 9223372036854775807 < 1 + t.size:=by omega
   have l2 : ¬ 9223372036854775807 < 1 + t.size + 2:=by omega
   go_wp2;go_ret;exact ⟨by rw [htg.out]; rfl,hbX.out⟩
set_option maxRecDepth 100000 in
set_option maxHeartbeats 3200000 in
theorem rb3_4 {v : V} {t : ByteArray} {i : Int} {r : Nat} {f : Bool} {a : Option Addr} {n cap : Nat} {d : Int} {w : World} (hp : RDownH v 4 t i r f a n cap d w) :
   Calls Tryz.prog 22 #[.agg #[.int .i64 4,.string t,.int .i64 i,.float .f64 r,.bool f,.slice a n cap],.int .i64 3] w fun e w' => e = .returned (.string ⟨(Ad v 3).toArray⟩) /\ Below w.heap.size w w':=by
 have hpar:=Hd hp.par
 have hrng:=Hd hp.rng
 replace hp:=hp.d
 obtain ⟨ek,et,ei,er,ef,en⟩:=hp.val.len
 have hra:=(V.ranged_eq v).1 hp.ranged
 have hfe:=hp.fine
 rw [V.fine_eq,Bool.and_eq_true,Bool.and_eq_true] at hfe
 have hok:=Ak hfe.1.1
 obtain ⟨W1,hW1⟩ : ∃ W1,W1 = w.alloc (.cells #[.int .i64 4,.string t,.int .i64 i,.float .f64 r,.bool f,.slice a n cap] 26):=⟨_,rfl⟩
 have hb1 : Below w.heap.size w W1:=by rw [hW1]; exact (Below.refl _ _).alloc (Nat.le_refl _) _
 have hB : ∀ q u,#[.int .i64 4,.string t,.int .i64 i,.float .f64 r,.bool f,.slice a n cap][q]? = some u -> W1.cell? ⟨w.heap.size,q,none⟩ = some u:=fun q u h => by rw [hW1,World.cell?_alloc_new]; exact h
 have c0:=hB 0 _ rfl
 have c1:=hB 1 _ rfl
 have c2:=hB 2 _ rfl
 have c3:=hB 3 _ rfl
 have c4:=hB 4 _ rfl
 have c5:=hB 5 _ rfl
 have hs1 : W1.heap.size = w.heap.size + 1:=by rw [hW1]; simp
 clear hB
 have hLX : LaidV W1.heap.size W1:=(hp.laid.below hb1 (Nat.le_refl _)).mono hb1.size
 have hpX : Par W1:=hpar.out.below hb1
 have hrX : Rng W1:=hrng.out.below hb1
 have hvX:=hp.val.mono (Aa hb1)
 have htz : t.size <= 4096:=by rw [et]; exact hok.size
 have hi9 : -9223372036854775808 <= i /\ i <= 9223372036854775807:=by rw [ei]; exact ⟨hra.1,hra.2.1⟩
 have hr9 : r < 18446744073709551616:=by rw [er]; exact hra.2.2.1
 have hbX:=hb1
 obtain ⟨WX,hWX⟩ : ∃ WX,WX = W1:=⟨_,rfl⟩
 rw [<- hWX] at c0 c1 c2 c3 c4 c5 hLX hpX hrX hvX hbX
 have hsX : w.heap.size < WX.heap.size:=by rw [hWX]; omega
 have hn0 : n = 0:=by rw [en,hok.list (by rw [<- ek]; decide)]; rfl
 subst hn0
 have htg : Hid ((⟨(Ad v 3).toArray⟩ : ByteArray) = (⟨#[36]⟩ : ByteArray) ++ (Av t.size ++ (⟨#[13,10]⟩ : ByteArray)) ++ t ++ ⟨#[13,10]⟩):=Hd (Bi (by
   simp only [ByteArray.data_append,Array.toList_append,Bq];rw [Ad,if_pos rfl,V.wire_eq,<- ek,if_neg (by decide),if_neg (by decide),if_neg (by decide),if_neg (by decide),if_neg (by decide),if_pos (by decide),<- et,longL,numL,B8,Aq t];simp [Ck]))
 replace hb1:=Hd hb1
 replace hW1:=Hd hW1
 replace hWX:=Hd hWX
 replace hs1:=Hd hs1
 replace hLX:=Hd hLX
 replace hpX:=Hd hpX
 replace hrX:=Hd hrX
 replace hvX:=Hd hvX
 replace hbX:=Hd hbX
 replace hfe:=Hd hfe
 replace hok:=Hd hok
 replace hp:=Hd hp
 replace ek:=Hd ek
 replace et:=Hd et
 replace ei:=Hd ei
 replace er:=Hd er
 replace ef:=Hd ef
 replace en:=Hd en
 replace hra:=Hd hra
 go_enter Tryz.func22,Tryz.ntmps22
 go_wp2_with fail
 rw [<- hW1.out,<- hWX.out]
 go_loopw [5,19] (fun s i wr => s = .string ⟨#[]⟩ /\ i = .int .i64 0 /\ wr = WX) (fun _ _ _ => 0)
 case atStart => exact ⟨rfl,rfl,rfl⟩
 case round =>
   obtain ⟨rfl,rfl,hww⟩:=hrel;obtain rfl:=hww.symm;clear hww;have hT:=Cf t.size (by omega);have hIz : (Av t.size).size <= 21:=Bf t.size (by omega) (by omega);have e2 : (⟨#[13,10]⟩ : ByteArray).size = 2:=rfl;have hTz : (Av t.size ++ (⟨#[13,10]⟩ : ByteArray)).size <= 23:=by rw [ByteArray.size_append]; omega
   generalize Av t.size ++ (⟨#[13,10]⟩ : ByteArray) = T at *;have l1 : ¬ 9223372036854775807 < 1 + T.size:=by omega
   have l2 : ¬ 9223372036854775807 < 1 + T.size + t.size:=by omega
   have l3 : ¬ 9223372036854775807 < 1 + T.size + t.size + 2:=by omega
   replace hT:=Hd hT;clear e2 hIz;go_upto_region 20 with fail
   refine Ah (by kernel_rfl) (by kernel_rfl) ?_;repeat (go_big_quiet_step ((go_at_call 43; (with_reducible exact Ay (hT.out _)))))
   refine wpQuiet_nil ?_;rintro _ ⟨xq,rfl⟩;have hS:=Ap WX xq;go_wp2_with fail
   go_ret;exact ⟨by rw [htg.out]; rfl,hbX.out.trans (hS.mono hbX.out.size)⟩
set_option maxRecDepth 100000 in
set_option maxHeartbeats 3200000 in
theorem rb3_10 {v : V} {t : ByteArray} {i : Int} {r : Nat} {f : Bool} {a : Option Addr} {n cap : Nat} {d : Int} {w : World} (hp : RDownH v 10 t i r f a n cap d w) :
   Calls Tryz.prog 22 #[.agg #[.int .i64 10,.string t,.int .i64 i,.float .f64 r,.bool f,.slice a n cap],.int .i64 3] w fun e w' => e = .returned (.string ⟨(Ad v 3).toArray⟩) /\ Below w.heap.size w w':=by
 have hpar:=Hd hp.par
 have hrng:=Hd hp.rng
 replace hp:=hp.d
 obtain ⟨ek,et,ei,er,ef,en⟩:=hp.val.len
 have hra:=(V.ranged_eq v).1 hp.ranged
 have hfe:=hp.fine
 rw [V.fine_eq,Bool.and_eq_true,Bool.and_eq_true] at hfe
 have hok:=Ak hfe.1.1
 obtain ⟨W1,hW1⟩ : ∃ W1,W1 = w.alloc (.cells #[.int .i64 10,.string t,.int .i64 i,.float .f64 r,.bool f,.slice a n cap] 26):=⟨_,rfl⟩
 have hb1 : Below w.heap.size w W1:=by rw [hW1]; exact (Below.refl _ _).alloc (Nat.le_refl _) _
 have hB : ∀ q u,#[.int .i64 10,.string t,.int .i64 i,.float .f64 r,.bool f,.slice a n cap][q]? = some u -> W1.cell? ⟨w.heap.size,q,none⟩ = some u:=fun q u h => by rw [hW1,World.cell?_alloc_new]; exact h
 have c0:=hB 0 _ rfl
 have c1:=hB 1 _ rfl
 have c2:=hB 2 _ rfl
 have c3:=hB 3 _ rfl
 have c4:=hB 4 _ rfl
 have c5:=hB 5 _ rfl
 have hs1 : W1.heap.size = w.heap.size + 1:=by rw [hW1]; simp
 clear hB
 have hLX : LaidV W1.heap.size W1:=(hp.laid.below hb1 (Nat.le_refl _)).mono hb1.size
 have hpX : Par W1:=hpar.out.below hb1
 have hrX : Rng W1:=hrng.out.below hb1
 have hvX:=hp.val.mono (Aa hb1)
 have htz : t.size <= 4096:=by rw [et]; exact hok.size
 have hi9 : -9223372036854775808 <= i /\ i <= 9223372036854775807:=by rw [ei]; exact ⟨hra.1,hra.2.1⟩
 have hr9 : r < 18446744073709551616:=by rw [er]; exact hra.2.2.1
 have hbX:=hb1
 obtain ⟨WX,hWX⟩ : ∃ WX,WX = W1:=⟨_,rfl⟩
 rw [<- hWX] at c0 c1 c2 c3 c4 c5 hLX hpX hrX hvX hbX
 have hsX : w.heap.size < WX.heap.size:=by rw [hWX]; omega
 have hn0 : n = 0:=by rw [en,hok.list (by rw [<- ek]; decide)]; rfl
 subst hn0
 have htg : Hid ((⟨(Ad v 3).toArray⟩ : ByteArray) = (⟨#[33]⟩ : ByteArray) ++ (Av t.size ++ (⟨#[13,10]⟩ : ByteArray)) ++ t ++ ⟨#[13,10]⟩):=Hd (Bi (by
   simp only [ByteArray.data_append,Array.toList_append,Bq];rw [Ad,if_pos rfl,V.wire_eq,<- ek,if_neg (by decide),if_neg (by decide),if_neg (by decide),if_neg (by decide),if_neg (by decide),if_pos (by decide),<- et,longL,numL,B8,Aq t];simp [Ck]))
 replace hb1:=Hd hb1
 replace hW1:=Hd hW1
 replace hWX:=Hd hWX
 replace hs1:=Hd hs1
 replace hLX:=Hd hLX
 replace hpX:=Hd hpX
 replace hrX:=Hd hrX
 replace hvX:=Hd hvX
 replace hbX:=Hd hbX
 replace hfe:=Hd hfe
 replace hok:=Hd hok
 replace hp:=Hd hp
 replace ek:=Hd ek
 replace et:=Hd et
 replace ei:=Hd ei
 replace er:=Hd er
 replace ef:=Hd ef
 replace en:=Hd en
 replace hra:=Hd hra
 go_enter Tryz.func22,Tryz.ntmps22
 go_wp2_with fail
 rw [<- hW1.out,<- hWX.out]
 go_loopw [5,19] (fun s i wr => s = .string ⟨#[]⟩ /\ i = .int .i64 0 /\ wr = WX) (fun _ _ _ => 0)
 case atStart => exact ⟨rfl,rfl,rfl⟩
 case round =>
   obtain ⟨rfl,rfl,hww⟩:=hrel;obtain rfl:=hww.symm;clear hww;have hT:=Cf t.size (by omega);have hIz : (Av t.size).size <= 21:=Bf t.size (by omega) (by omega);have e2 : (⟨#[13,10]⟩ : ByteArray).size = 2:=rfl;have hTz : (Av t.size ++ (⟨#[13,10]⟩ : ByteArray)).size <= 23:=by rw [ByteArray.size_append]; omega
   generalize Av t.size ++ (⟨#[13,10]⟩ : ByteArray) = T at *;have l1 : ¬ 9223372036854775807 < 1 + T.size:=by omega
   have l2 : ¬ 9223372036854775807 < 1 + T.size + t.size:=by omega
   have l3 : ¬ 9223372036854775807 < 1 + T.size + t.size + 2:=by omega
   replace hT:=Hd hT;clear e2 hIz;go_upto_region 34 with fail
   refine Ah (by kernel_rfl) (by kernel_rfl) ?_;repeat (go_big_quiet_step ((go_at_call 43; (with_reducible exact Ay (hT.out _)))))
   refine wpQuiet_nil ?_;rintro _ ⟨xq,rfl⟩;have hS:=Ap WX xq;go_wp2_with fail
   go_ret;exact ⟨by rw [htg.out]; rfl,hbX.out.trans (hS.mono hbX.out.size)⟩
set_option maxRecDepth 100000 in
set_option maxHeartbeats 3200000 in
theorem rb3_11 {v : V} {t : ByteArray} {i : Int} {r : Nat} {f : Bool} {a : Option Addr} {n cap : Nat} {d : Int} {w : World} (hp : RDownH v 11 t i r f a n cap d w) :
   Calls Tryz.prog 22 #[.agg #[.int .i64 11,.string t,.int .i64 i,.float .f64 r,.bool f,.slice a n cap],.int .i64 3] w fun e w' => e = .returned (.string ⟨(Ad v 3).toArray⟩) /\ Below w.heap.size w w':=by
 have hpar:=Hd hp.par
 have hrng:=Hd hp.rng
 replace hp:=hp.d
 obtain ⟨ek,et,ei,er,ef,en⟩:=hp.val.len
 have hra:=(V.ranged_eq v).1 hp.ranged
 have hfe:=hp.fine
 rw [V.fine_eq,Bool.and_eq_true,Bool.and_eq_true] at hfe
 have hok:=Ak hfe.1.1
 obtain ⟨W1,hW1⟩ : ∃ W1,W1 = w.alloc (.cells #[.int .i64 11,.string t,.int .i64 i,.float .f64 r,.bool f,.slice a n cap] 26):=⟨_,rfl⟩
 have hb1 : Below w.heap.size w W1:=by rw [hW1]; exact (Below.refl _ _).alloc (Nat.le_refl _) _
 have hB : ∀ q u,#[.int .i64 11,.string t,.int .i64 i,.float .f64 r,.bool f,.slice a n cap][q]? = some u -> W1.cell? ⟨w.heap.size,q,none⟩ = some u:=fun q u h => by rw [hW1,World.cell?_alloc_new]; exact h
 have c0:=hB 0 _ rfl
 have c1:=hB 1 _ rfl
 have c2:=hB 2 _ rfl
 have c3:=hB 3 _ rfl
 have c4:=hB 4 _ rfl
 have c5:=hB 5 _ rfl
 have hs1 : W1.heap.size = w.heap.size + 1:=by rw [hW1]; simp
 clear hB
 have hLX : LaidV W1.heap.size W1:=(hp.laid.below hb1 (Nat.le_refl _)).mono hb1.size
 have hpX : Par W1:=hpar.out.below hb1
 have hrX : Rng W1:=hrng.out.below hb1
 have hvX:=hp.val.mono (Aa hb1)
 have htz : t.size <= 4096:=by rw [et]; exact hok.size
 have hi9 : -9223372036854775808 <= i /\ i <= 9223372036854775807:=by rw [ei]; exact ⟨hra.1,hra.2.1⟩
 have hr9 : r < 18446744073709551616:=by rw [er]; exact hra.2.2.1
 have hbX:=hb1
 obtain ⟨WX,hWX⟩ : ∃ WX,WX = W1:=⟨_,rfl⟩
 rw [<- hWX] at c0 c1 c2 c3 c4 c5 hLX hpX hrX hvX hbX
 have hsX : w.heap.size < WX.heap.size:=by rw [hWX]; omega
 have hn0 : n = 0:=by rw [en,hok.list (by rw [<- ek]; decide)]; rfl
 subst hn0
 have htg : Hid ((⟨(Ad v 3).toArray⟩ : ByteArray) = (⟨#[61]⟩ : ByteArray) ++ (Av t.size ++ (⟨#[13,10]⟩ : ByteArray)) ++ t ++ ⟨#[13,10]⟩):=Hd (Bi (by
   simp only [ByteArray.data_append,Array.toList_append,Bq];rw [Ad,if_pos rfl,V.wire_eq,<- ek,if_neg (by decide),if_neg (by decide),if_neg (by decide),if_neg (by decide),if_neg (by decide),if_pos (by decide),<- et,longL,numL,B8,Aq t];simp [Ck]))
 replace hb1:=Hd hb1
 replace hW1:=Hd hW1
 replace hWX:=Hd hWX
 replace hs1:=Hd hs1
 replace hLX:=Hd hLX
 replace hpX:=Hd hpX
 replace hrX:=Hd hrX
 replace hvX:=Hd hvX
 replace hbX:=Hd hbX
 replace hfe:=Hd hfe
 replace hok:=Hd hok
 replace hp:=Hd hp
 replace ek:=Hd ek
 replace et:=Hd et
 replace ei:=Hd ei
 replace er:=Hd er
 replace ef:=Hd ef
 replace en:=Hd en
 replace hra:=Hd hra
 go_enter Tryz.func22,Tryz.ntmps22
 go_wp2_with fail
 rw [<- hW1.out,<- hWX.out]
 go_loopw [5,19] (fun s i wr => s = .string ⟨#[]⟩ /\ i = .int .i64 0 /\ wr = WX) (fun _ _ _ => 0)
 case atStart => exact ⟨rfl,rfl,rfl⟩
 case round =>
   obtain ⟨rfl,rfl,hww⟩:=hrel;obtain rfl:=hww.symm;clear hww;have hT:=Cf t.size (by omega);have hIz : (Av t.size).size <= 21:=Bf t.size (by omega) (by omega);have e2 : (⟨#[13,10]⟩ : ByteArray).size = 2:=rfl;have hTz : (Av t.size ++ (⟨#[13,10]⟩ : ByteArray)).size <= 23:=by rw [ByteArray.size_append]; omega
   generalize Av t.size ++ (⟨#[13,10]⟩ : ByteArray) = T at *;have l1 : ¬ 9223372036854775807 < 1 + T.size:=by omega
   have l2 : ¬ 9223372036854775807 < 1 + T.size + t.size:=by omega
   have l3 : ¬ 9223372036854775807 < 1 + T.size + t.size + 2:=by omega
   replace hT:=Hd hT;clear e2 hIz;go_upto_region 36 with fail
   refine Ah (by kernel_rfl) (by kernel_rfl) ?_;repeat (go_big_quiet_step ((go_at_call 43; (with_reducible exact Ay (hT.out _)))))
   refine wpQuiet_nil ?_;rintro _ ⟨xq,rfl⟩;have hS:=Ap WX xq;go_wp2_with fail
   go_ret;exact ⟨by rw [htg.out]; rfl,hbX.out.trans (hS.mono hbX.out.size)⟩
set_option maxRecDepth 100000 in
set_option maxHeartbeats 3200000 in
theorem rb3_3 {v : V} {t : ByteArray} {i : Int} {r : Nat} {f : Bool} {a : Option Addr} {n cap : Nat} {d : Int} {w : World} (hp : RDownH v 3 t i r f a n cap d w) :
   Calls Tryz.prog 22 #[.agg #[.int .i64 3,.string t,.int .i64 i,.float .f64 r,.bool f,.slice a n cap],.int .i64 3] w fun e w' => e = .returned (.string ⟨(Ad v 3).toArray⟩) /\ Below w.heap.size w w':=by
 have hpar:=Hd hp.par
 have hrng:=Hd hp.rng
 replace hp:=hp.d
 obtain ⟨ek,et,ei,er,ef,en⟩:=hp.val.len
 have hra:=(V.ranged_eq v).1 hp.ranged
 have hfe:=hp.fine
 rw [V.fine_eq,Bool.and_eq_true,Bool.and_eq_true] at hfe
 have hok:=Ak hfe.1.1
 obtain ⟨W1,hW1⟩ : ∃ W1,W1 = w.alloc (.cells #[.int .i64 3,.string t,.int .i64 i,.float .f64 r,.bool f,.slice a n cap] 26):=⟨_,rfl⟩
 have hb1 : Below w.heap.size w W1:=by rw [hW1]; exact (Below.refl _ _).alloc (Nat.le_refl _) _
 have hB : ∀ q u,#[.int .i64 3,.string t,.int .i64 i,.float .f64 r,.bool f,.slice a n cap][q]? = some u -> W1.cell? ⟨w.heap.size,q,none⟩ = some u:=fun q u h => by rw [hW1,World.cell?_alloc_new]; exact h
 have c0:=hB 0 _ rfl
 have c1:=hB 1 _ rfl
 have c2:=hB 2 _ rfl
 have c3:=hB 3 _ rfl
 have c4:=hB 4 _ rfl
 have c5:=hB 5 _ rfl
 have hs1 : W1.heap.size = w.heap.size + 1:=by rw [hW1]; simp
 clear hB
 have hLX : LaidV W1.heap.size W1:=(hp.laid.below hb1 (Nat.le_refl _)).mono hb1.size
 have hpX : Par W1:=hpar.out.below hb1
 have hrX : Rng W1:=hrng.out.below hb1
 have hvX:=hp.val.mono (Aa hb1)
 have htz : t.size <= 4096:=by rw [et]; exact hok.size
 have hi9 : -9223372036854775808 <= i /\ i <= 9223372036854775807:=by rw [ei]; exact ⟨hra.1,hra.2.1⟩
 have hr9 : r < 18446744073709551616:=by rw [er]; exact hra.2.2.1
 have hbX:=hb1
 obtain ⟨WX,hWX⟩ : ∃ WX,WX = W1:=⟨_,rfl⟩
 rw [<- hWX] at c0 c1 c2 c3 c4 c5 hLX hpX hrX hvX hbX
 have hsX : w.heap.size < WX.heap.size:=by rw [hWX]; omega
 have hn0 : n = 0:=by rw [en,hok.list (by rw [<- ek]; decide)]; rfl
 subst hn0
 have htg : Hid ((⟨(Ad v 3).toArray⟩ : ByteArray) = (⟨#[58]⟩ : ByteArray) ++ Av i ++ ⟨#[13,10]⟩):=Hd (Bi (by
   rw [ByteArray.data_append,ByteArray.data_append,Array.toList_append,Array.toList_append,Bq,Ad,if_pos rfl,V.wire_eq,<- ek,if_neg (by decide),if_pos (by decide),<- ei]; rfl))
 replace hb1:=Hd hb1
 replace hW1:=Hd hW1
 replace hWX:=Hd hWX
 replace hs1:=Hd hs1
 replace hLX:=Hd hLX
 replace hpX:=Hd hpX
 replace hrX:=Hd hrX
 replace hvX:=Hd hvX
 replace hbX:=Hd hbX
 replace hfe:=Hd hfe
 replace hok:=Hd hok
 replace hp:=Hd hp
 replace ek:=Hd ek
 replace et:=Hd et
 replace ei:=Hd ei
 replace er:=Hd er
 replace ef:=Hd ef
 replace en:=Hd en
 replace hra:=Hd hra
 go_enter Tryz.func22,Tryz.ntmps22
 go_wp2_with fail
 rw [<- hW1.out,<- hWX.out]
 go_loopw [5,19] (fun s i wr => s = .string ⟨#[]⟩ /\ i = .int .i64 0 /\ wr = WX) (fun _ _ _ => 0)
 case atStart => exact ⟨rfl,rfl,rfl⟩
 case round =>
   obtain ⟨rfl,rfl,hww⟩:=hrel;obtain rfl:=hww.symm;clear hww;have hT:=D9 i hi9.1 hi9.2;have hIz : (Av i).size <= 21:=Bf i hi9.1 hi9.2;generalize Av i = T at *;have l1 : ¬ 9223372036854775807 < 1 + T.size:=by omega
   have l2 : ¬ 9223372036854775807 < 1 + T.size + 2:=by omega
   replace hT:=Hd hT;go_wp2_with fail
   refine (hT.out _).mono ?_;rintro e w1 ⟨rfl,hbb⟩;replace hbb:=Hd hbb;go_wp2;go_ret;exact ⟨by rw [htg.out]; rfl,hbX.out.trans (hbb.out.mono hbX.out.size)⟩
set_option maxRecDepth 100000 in
set_option maxHeartbeats 3200000 in
theorem rb3_7 {v : V} {t : ByteArray} {i : Int} {r : Nat} {f : Bool} {a : Option Addr} {n cap : Nat} {d : Int} {w : World} (hp : RDownH v 7 t i r f a n cap d w) :
   Calls Tryz.prog 22 #[.agg #[.int .i64 7,.string t,.int .i64 i,.float .f64 r,.bool f,.slice a n cap],.int .i64 3] w fun e w' => e = .returned (.string ⟨(Ad v 3).toArray⟩) /\ Below w.heap.size w w':=by
 have hpar:=Hd hp.par
 have hrng:=Hd hp.rng
 replace hp:=hp.d
 obtain ⟨ek,et,ei,er,ef,en⟩:=hp.val.len
 have hra:=(V.ranged_eq v).1 hp.ranged
 have hfe:=hp.fine
 rw [V.fine_eq,Bool.and_eq_true,Bool.and_eq_true] at hfe
 have hok:=Ak hfe.1.1
 obtain ⟨W1,hW1⟩ : ∃ W1,W1 = w.alloc (.cells #[.int .i64 7,.string t,.int .i64 i,.float .f64 r,.bool f,.slice a n cap] 26):=⟨_,rfl⟩
 have hb1 : Below w.heap.size w W1:=by rw [hW1]; exact (Below.refl _ _).alloc (Nat.le_refl _) _
 have hB : ∀ q u,#[.int .i64 7,.string t,.int .i64 i,.float .f64 r,.bool f,.slice a n cap][q]? = some u -> W1.cell? ⟨w.heap.size,q,none⟩ = some u:=fun q u h => by rw [hW1,World.cell?_alloc_new]; exact h
 have c0:=hB 0 _ rfl
 have c1:=hB 1 _ rfl
 have c2:=hB 2 _ rfl
 have c3:=hB 3 _ rfl
 have c4:=hB 4 _ rfl
 have c5:=hB 5 _ rfl
 have hs1 : W1.heap.size = w.heap.size + 1:=by rw [hW1]; simp
 clear hB
 have hLX : LaidV W1.heap.size W1:=(hp.laid.below hb1 (Nat.le_refl _)).mono hb1.size
 have hpX : Par W1:=hpar.out.below hb1
 have hrX : Rng W1:=hrng.out.below hb1
 have hvX:=hp.val.mono (Aa hb1)
 have htz : t.size <= 4096:=by rw [et]; exact hok.size
 have hi9 : -9223372036854775808 <= i /\ i <= 9223372036854775807:=by rw [ei]; exact ⟨hra.1,hra.2.1⟩
 have hr9 : r < 18446744073709551616:=by rw [er]; exact hra.2.2.1
 have hbX:=hb1
 obtain ⟨WX,hWX⟩ : ∃ WX,WX = W1:=⟨_,rfl⟩
 rw [<- hWX] at c0 c1 c2 c3 c4 c5 hLX hpX hrX hvX hbX
 have hsX : w.heap.size < WX.heap.size:=by rw [hWX]; omega
 have hn0 : n = 0:=by rw [en,hok.list (by rw [<- ek]; decide)]; rfl
 subst hn0
 have htg : Hid ((⟨(Ad v 3).toArray⟩ : ByteArray) = (⟨#[44]⟩ : ByteArray) ++ ⟨(Bd r).toArray⟩ ++ ⟨#[13,10]⟩):=Hd (Bi (by
   rw [ByteArray.data_append,ByteArray.data_append,Array.toList_append,Array.toList_append,Ad,if_pos rfl,V.wire_eq,<- ek,if_neg (by decide),if_neg (by decide),if_pos (by decide),<- er]; rfl))
 replace hb1:=Hd hb1
 replace hW1:=Hd hW1
 replace hWX:=Hd hWX
 replace hs1:=Hd hs1
 replace hLX:=Hd hLX
 replace hpX:=Hd hpX
 replace hrX:=Hd hrX
 replace hvX:=Hd hvX
 replace hbX:=Hd hbX
 replace hfe:=Hd hfe
 replace hok:=Hd hok
 replace hp:=Hd hp
 replace ek:=Hd ek
 replace et:=Hd et
 replace ei:=Hd ei
 replace er:=Hd er
 replace ef:=Hd ef
 replace en:=Hd en
 replace hra:=Hd hra
 go_enter Tryz.func22,Tryz.ntmps22
 go_wp2_with fail
 rw [<- hW1.out,<- hWX.out]
 go_loopw [5,19] (fun s i wr => s = .string ⟨#[]⟩ /\ i = .int .i64 0 /\ wr = WX) (fun _ _ _ => 0)
 case atStart => exact ⟨rfl,rfl,rfl⟩
 case round =>
   obtain ⟨rfl,rfl,hww⟩:=hrel;obtain rfl:=hww.symm;clear hww;have hT:=fun w hP hF hR => refText_any (w:=w) hr9 hP hF hR;have hLz:=text_len hr9;have hTz : (⟨(Bd r).toArray⟩ : ByteArray).size <= 25:=by rw [Aq]; simpa using hLz
   generalize (⟨(Bd r).toArray⟩ : ByteArray) = T at *;have l1 : ¬ 9223372036854775807 < 1 + T.size:=by omega
   have l2 : ¬ 9223372036854775807 < 1 + T.size + 2:=by omega
   replace hT:=Hd hT;clear hLz;go_wp2_with fail
   refine (hT.out _ hpX.out hLX.out.isFlo hrX.out).mono ?_;rintro e w1 ⟨rfl,hbb⟩;replace hbb:=Hd hbb;go_wp2;go_ret;exact ⟨by rw [htg.out]; rfl,hbX.out.trans (hbb.out.mono hbX.out.size)⟩
set_option maxRecDepth 100000 in
set_option maxHeartbeats 3200000 in
theorem rb3_6 {v : V} {t : ByteArray} {i : Int} {r : Nat} {f : Bool} {a : Option Addr} {n cap : Nat} {d : Int} {w : World} (hp : RDownH v 6 t i r f a n cap d w) :
   Calls Tryz.prog 22 #[.agg #[.int .i64 6,.string t,.int .i64 i,.float .f64 r,.bool f,.slice a n cap],.int .i64 3] w fun e w' => e = .returned (.string ⟨(Ad v 3).toArray⟩) /\ Below w.heap.size w w':=by
 have hpar:=Hd hp.par
 have hrng:=Hd hp.rng
 replace hp:=hp.d
 obtain ⟨ek,et,ei,er,ef,en⟩:=hp.val.len
 have hra:=(V.ranged_eq v).1 hp.ranged
 have hfe:=hp.fine
 rw [V.fine_eq,Bool.and_eq_true,Bool.and_eq_true] at hfe
 have hok:=Ak hfe.1.1
 obtain ⟨W1,hW1⟩ : ∃ W1,W1 = w.alloc (.cells #[.int .i64 6,.string t,.int .i64 i,.float .f64 r,.bool f,.slice a n cap] 26):=⟨_,rfl⟩
 have hb1 : Below w.heap.size w W1:=by rw [hW1]; exact (Below.refl _ _).alloc (Nat.le_refl _) _
 have hB : ∀ q u,#[.int .i64 6,.string t,.int .i64 i,.float .f64 r,.bool f,.slice a n cap][q]? = some u -> W1.cell? ⟨w.heap.size,q,none⟩ = some u:=fun q u h => by rw [hW1,World.cell?_alloc_new]; exact h
 have c0:=hB 0 _ rfl
 have c1:=hB 1 _ rfl
 have c2:=hB 2 _ rfl
 have c3:=hB 3 _ rfl
 have c4:=hB 4 _ rfl
 have c5:=hB 5 _ rfl
 have hs1 : W1.heap.size = w.heap.size + 1:=by rw [hW1]; simp
 clear hB
 have hLX : LaidV W1.heap.size W1:=(hp.laid.below hb1 (Nat.le_refl _)).mono hb1.size
 have hpX : Par W1:=hpar.out.below hb1
 have hrX : Rng W1:=hrng.out.below hb1
 have hvX:=hp.val.mono (Aa hb1)
 have htz : t.size <= 4096:=by rw [et]; exact hok.size
 have hi9 : -9223372036854775808 <= i /\ i <= 9223372036854775807:=by rw [ei]; exact ⟨hra.1,hra.2.1⟩
 have hr9 : r < 18446744073709551616:=by rw [er]; exact hra.2.2.1
 have hbX:=hb1
 obtain ⟨WX,hWX⟩ : ∃ WX,WX = W1:=⟨_,rfl⟩
 rw [<- hWX] at c0 c1 c2 c3 c4 c5 hLX hpX hrX hvX hbX
 have hsX : w.heap.size < WX.heap.size:=by rw [hWX]; omega
 have hn0 : n = 0:=by rw [en,hok.list (by rw [<- ek]; decide)]; rfl
 subst hn0
 have htg : Hid ((⟨(Ad v 3).toArray⟩ : ByteArray) = (⟨#[95,13,10]⟩ : ByteArray)):=Hd (Bi (by
   rw [Ad,if_pos rfl,V.wire_eq,<- ek,if_neg (by decide),if_neg (by decide),if_neg (by decide),if_neg (by decide),if_pos (by decide)]; rfl))
 replace hb1:=Hd hb1
 replace hW1:=Hd hW1
 replace hWX:=Hd hWX
 replace hs1:=Hd hs1
 replace hLX:=Hd hLX
 replace hpX:=Hd hpX
 replace hrX:=Hd hrX
 replace hvX:=Hd hvX
 replace hbX:=Hd hbX
 replace hfe:=Hd hfe
 replace hok:=Hd hok
 replace hp:=Hd hp
 replace ek:=Hd ek
 replace et:=Hd et
 replace ei:=Hd ei
 replace er:=Hd er
 replace ef:=Hd ef
 replace en:=Hd en
 replace hra:=Hd hra
 go_enter Tryz.func22,Tryz.ntmps22
 go_wp2_with fail
 rw [<- hW1.out,<- hWX.out]
 go_loopw [5,19] (fun s i wr => s = .string ⟨#[]⟩ /\ i = .int .i64 0 /\ wr = WX) (fun _ _ _ => 0)
 case atStart => exact ⟨rfl,rfl,rfl⟩
 case round =>
   obtain ⟨rfl,rfl,hww⟩:=hrel;obtain rfl:=hww.symm;clear hww;go_wp2;go_ret;exact ⟨by rw [htg.out]; rfl,hbX.out⟩
set_option maxRecDepth 100000 in
set_option maxHeartbeats 3200000 in
theorem rb3_8 {v : V} {t : ByteArray} {i : Int} {r : Nat} {f : Bool} {a : Option Addr} {n cap : Nat} {d : Int} {w : World} (hp : RDownH v 8 t i r f a n cap d w) :
   Calls Tryz.prog 22 #[.agg #[.int .i64 8,.string t,.int .i64 i,.float .f64 r,.bool f,.slice a n cap],.int .i64 3] w fun e w' => e = .returned (.string ⟨(Ad v 3).toArray⟩) /\ Below w.heap.size w w':=by
 have hpar:=Hd hp.par
 have hrng:=Hd hp.rng
 replace hp:=hp.d
 obtain ⟨ek,et,ei,er,ef,en⟩:=hp.val.len
 have hra:=(V.ranged_eq v).1 hp.ranged
 have hfe:=hp.fine
 rw [V.fine_eq,Bool.and_eq_true,Bool.and_eq_true] at hfe
 have hok:=Ak hfe.1.1
 obtain ⟨W1,hW1⟩ : ∃ W1,W1 = w.alloc (.cells #[.int .i64 8,.string t,.int .i64 i,.float .f64 r,.bool f,.slice a n cap] 26):=⟨_,rfl⟩
 have hb1 : Below w.heap.size w W1:=by rw [hW1]; exact (Below.refl _ _).alloc (Nat.le_refl _) _
 have hB : ∀ q u,#[.int .i64 8,.string t,.int .i64 i,.float .f64 r,.bool f,.slice a n cap][q]? = some u -> W1.cell? ⟨w.heap.size,q,none⟩ = some u:=fun q u h => by rw [hW1,World.cell?_alloc_new]; exact h
 have c0:=hB 0 _ rfl
 have c1:=hB 1 _ rfl
 have c2:=hB 2 _ rfl
 have c3:=hB 3 _ rfl
 have c4:=hB 4 _ rfl
 have c5:=hB 5 _ rfl
 have hs1 : W1.heap.size = w.heap.size + 1:=by rw [hW1]; simp
 clear hB
 have hLX : LaidV W1.heap.size W1:=(hp.laid.below hb1 (Nat.le_refl _)).mono hb1.size
 have hpX : Par W1:=hpar.out.below hb1
 have hrX : Rng W1:=hrng.out.below hb1
 have hvX:=hp.val.mono (Aa hb1)
 have htz : t.size <= 4096:=by rw [et]; exact hok.size
 have hi9 : -9223372036854775808 <= i /\ i <= 9223372036854775807:=by rw [ei]; exact ⟨hra.1,hra.2.1⟩
 have hr9 : r < 18446744073709551616:=by rw [er]; exact hra.2.2.1
 have hbX:=hb1
 obtain ⟨WX,hWX⟩ : ∃ WX,WX = W1:=⟨_,rfl⟩
 rw [<- hWX] at c0 c1 c2 c3 c4 c5 hLX hpX hrX hvX hbX
 have hsX : w.heap.size < WX.heap.size:=by rw [hWX]; omega
 have hn0 : n = 0:=by rw [en,hok.list (by rw [<- ek]; decide)]; rfl
 subst hn0
 have hw : v.wire = B8 35 (if f then [116] else [102]):=by rw [V.wire_eq,<- ek,if_neg (by decide),if_neg (by decide),if_neg (by decide),if_pos (by decide),<- ef]
 have hb3 : Ad v 3 = B8 35 (if f then [116] else [102]):=by rw [<- hw]; exact if_pos rfl
 clear hw
 cases f
 · have htg : Hid ((⟨(Ad v 3).toArray⟩ : ByteArray) = (⟨#[35,102,13,10]⟩ : ByteArray)):=Hd (Bi (by rw [hb3]; rfl))
   clear hb3;replace hb1:=Hd hb1;replace hW1:=Hd hW1;replace hWX:=Hd hWX;replace hs1:=Hd hs1;replace hLX:=Hd hLX;replace hpX:=Hd hpX;replace hrX:=Hd hrX;replace hvX:=Hd hvX;replace hbX:=Hd hbX;replace hfe:=Hd hfe;replace hok:=Hd hok;replace hp:=Hd hp;replace ek:=Hd ek;replace et:=Hd et;replace ei:=Hd ei;replace er:=Hd er;replace ef:=Hd ef;replace en:=Hd en;replace hra:=Hd hra
   go_enter Tryz.func22,Tryz.ntmps22
   go_wp2_with fail
   rw [<- hW1.out,<- hWX.out];go_loopw [5,19] (fun s i wr => s = .string ⟨#[]⟩ /\ i = .int .i64 0 /\ wr = WX) (fun _ _ _ => 0)
   case atStart => exact ⟨rfl,rfl,rfl⟩
   case round =>
     obtain ⟨rfl,rfl,hww⟩:=hrel;obtain rfl:=hww.symm;clear hww;go_wp2;go_ret;exact ⟨by rw [htg.out]; rfl,hbX.out⟩
 · have htg : Hid ((⟨(Ad v 3).toArray⟩ : ByteArray) = (⟨#[35,116,13,10]⟩ : ByteArray)):=Hd (Bi (by rw [hb3]; rfl))
   clear hb3;replace hb1:=Hd hb1;replace hW1:=Hd hW1;replace hWX:=Hd hWX;replace hs1:=Hd hs1;replace hLX:=Hd hLX;replace hpX:=Hd hpX;replace hrX:=Hd hrX;replace hvX:=Hd hvX;replace hbX:=Hd hbX;replace hfe:=Hd hfe;replace hok:=Hd hok;replace hp:=Hd hp;replace ek:=Hd ek;replace et:=Hd et;replace ei:=Hd ei;replace er:=Hd er;replace ef:=Hd ef;replace en:=Hd en;replace hra:=Hd hra
   go_enter Tryz.func22,Tryz.ntmps22
   go_wp2_with fail
   rw [<- hW1.out,<- hWX.out];go_loopw [5,19] (fun s i wr => s = .string ⟨#[]⟩ /\ i = .int .i64 0 /\ wr = WX) (fun _ _ _ => 0)
   case atStart => exact ⟨rfl,rfl,rfl⟩
   case round =>
     obtain ⟨rfl,rfl,hww⟩:=hrel;obtain rfl:=hww.symm;clear hww;go_wp2;go_ret;exact ⟨by rw [htg.out]; rfl,hbX.out⟩
def A0 (p : Int) (l : List V) : List UInt8:=l.flatMap fun x => Ad x p
theorem Dp (p : Int) (l : List V) (x : V) : A0 p (l ++ [x]) = A0 p l ++ Ad x p:=by unfold A0; simp
theorem Dh {p d : Int} : ∀ {l : List V},(∀ x ∈ l,x.fine d = true) -> (∀ x ∈ l,x.ranged) -> V.countL l <= 100000 -> (A0 p l).length <= 5000 * V.countL l
 | [],_,_,_ => Nat.zero_le _
 | x :: l,hf,hr,hc => by
   rw [V.countL] at hc ⊢;have h1:=(Co (p:=p) (hf x (by simp)) (hr x (by simp)) (by omega)).2;have h2:=Dh (p:=p) (d:=d) (l:=l) (fun y hy => hf y (by simp [hy])) (fun y hy => hr y (by simp [hy])) (by omega);unfold A0 at h2 ⊢;rw [List.flatMap_cons,List.length_append]; omega
theorem El (l : List V) : A0 3 l = V.wireL l:=by
 induction l with
 | nil => rfl
 | cons x l ih =>
   unfold A0 at ih ⊢;rw [List.flatMap_cons,ih,V.wireL]; rfl
theorem partsL_old {p : Int} (hp : p ≠ 3) {l : List V} (h : ∀ x ∈ l,x.down = x) : A0 p l = V.oldL l:=by
 induction l with
 | nil => rfl
 | cons x l ih =>
   have hx:=h x (by simp);have hi:=ih fun y hy => h y (by simp [hy]);unfold A0 at hi ⊢;rw [List.flatMap_cons,hi,V.oldL];show (if p = 3 then x.wire else x.down.old) ++ _ = _;rw [if_neg hp,hx]
set_option maxRecDepth 100000 in
set_option maxHeartbeats 6400000 in
theorem rb3_5 {v : V} (ih : ∀ x ∈ v.list,Ds 3 x) {t : ByteArray} {i : Int} {r : Nat} {f : Bool} {a : Option Addr} {n cap : Nat} {d : Int} {w : World} (hp : RDownH v 5 t i r f a n cap d w) :
   Calls Tryz.prog 22 #[.agg #[.int .i64 5,.string t,.int .i64 i,.float .f64 r,.bool f,.slice a n cap],.int .i64 3] w fun e w' => e = .returned (.string ⟨(Ad v 3).toArray⟩) /\ Below w.heap.size w w':=by
 have hpar:=Hd hp.par
 have hrng:=Hd hp.rng
 replace hp:=hp.d
 obtain ⟨ek,et,ei,er,ef,en⟩:=hp.val.len
 have hra:=(V.ranged_eq v).1 hp.ranged
 have hfe:=hp.fine
 rw [V.fine_eq,Bool.and_eq_true,Bool.and_eq_true] at hfe
 have hok:=Ak hfe.1.1
 obtain ⟨W1,hW1⟩ : ∃ W1,W1 = w.alloc (.cells #[.int .i64 5,.string t,.int .i64 i,.float .f64 r,.bool f,.slice a n cap] 26):=⟨_,rfl⟩
 have hb1 : Below w.heap.size w W1:=by rw [hW1]; exact (Below.refl _ _).alloc (Nat.le_refl _) _
 have hB : ∀ q u,#[.int .i64 5,.string t,.int .i64 i,.float .f64 r,.bool f,.slice a n cap][q]? = some u -> W1.cell? ⟨w.heap.size,q,none⟩ = some u:=fun q u h => by rw [hW1,World.cell?_alloc_new]; exact h
 have c0:=hB 0 _ rfl
 have c1:=hB 1 _ rfl
 have c2:=hB 2 _ rfl
 have c3:=hB 3 _ rfl
 have c4:=hB 4 _ rfl
 have c5:=hB 5 _ rfl
 have hs1 : W1.heap.size = w.heap.size + 1:=by rw [hW1]; simp
 clear hB
 have hLX : LaidV W1.heap.size W1:=(hp.laid.below hb1 (Nat.le_refl _)).mono hb1.size
 have hpX : Par W1:=hpar.out.below hb1
 have hrX : Rng W1:=hrng.out.below hb1
 have hvX:=hp.val.mono (Aa hb1)
 have htz : t.size <= 4096:=by rw [et]; exact hok.size
 have hi9 : -9223372036854775808 <= i /\ i <= 9223372036854775807:=by rw [ei]; exact ⟨hra.1,hra.2.1⟩
 have hr9 : r < 18446744073709551616:=by rw [er]; exact hra.2.2.1
 have hbX:=hb1
 obtain ⟨WX,hWX⟩ : ∃ WX,WX = W1:=⟨_,rfl⟩
 rw [<- hWX] at c0 c1 c2 c3 c4 c5 hLX hpX hrX hvX hbX
 have hsX : w.heap.size < WX.heap.size:=by rw [hWX]; omega
 replace ih:=Hd ih
 have hcn : V.countL v.list <= 100000:=by have:=hp.count; have:=v.count_eq; omega
 have hll:=V.length_le v.list
 have hn9 : n <= 100000:=by omega
 have htg : Hid ((⟨(Ad v 3).toArray⟩ : ByteArray) = (⟨#[42]⟩ : ByteArray) ++ (Av ((n : Nat) : Int) ++ (⟨#[13,10]⟩ : ByteArray)) ++ ⟨(A0 3 v.list).toArray⟩):=Hd (Bi (by
   have hw : Ad v 3 = numL (Ck 5) (Ed 5 v.list.length) ++ V.wireL v.list:=by
     unfold Ad;rw [show (if (3 : Int) = 3 then v.wire else v.down.old) = v.wire from if_pos rfl,V.wire_eq,<- ek,if_neg (by decide),if_neg (by decide),if_neg (by decide),if_neg (by decide),if_neg (by decide),if_neg (by decide),if_pos (by decide)]
   rw [hw,<- El,<- en];simp only [ByteArray.data_append,Array.toList_append,Bq,numL,B8];simp [Ck,Ed]))
 have hnl : Hid (n = v.list.length):=Hd en
 have hvL : Hid (RV WX.cell? (Ae v.kind v.text v.int v.real v.flag a n cap) v):=Hd (by rw [<- ek,<- et,<- ei,<- er,<- ef]; exact hvX)
 have hfine : Hid (V.fineL v.list (d - 1) = true):=Hd hfe.2
 have hrl : Hid (V.rangedL v.list):=Hd hra.2.2.2
 have hcnt : Hid (V.countL v.list <= 100000):=Hd hcn
 clear hcn hll
 replace hb1:=Hd hb1
 replace hW1:=Hd hW1
 replace hWX:=Hd hWX
 replace hs1:=Hd hs1
 replace hLX:=Hd hLX
 replace hpX:=Hd hpX
 replace hrX:=Hd hrX
 replace hvX:=Hd hvX
 replace hbX:=Hd hbX
 replace hfe:=Hd hfe
 replace hok:=Hd hok
 replace hp:=Hd hp
 replace ek:=Hd ek
 replace et:=Hd et
 replace ei:=Hd ei
 replace er:=Hd er
 replace ef:=Hd ef
 replace en:=Hd en
 replace hra:=Hd hra
 go_enter Tryz.func22,Tryz.ntmps22
 go_wp2_with fail
 rw [<- hW1.out,<- hWX.out]
 have hcs:=hcnt
 go_loopw [5,19] (fun s i wr => ∃ j : Nat,j <= n /\ i = .int .i64 j /\ s = .string ⟨(A0 3 (v.list.take j)).toArray⟩ /\ Below WX.heap.size WX wr) (fun _ i _ => n - (intOf i).toNat)
 case atStart => exact ⟨0,Nat.zero_le _,rfl,rfl,Below.refl _ _⟩
 case round =>
   obtain ⟨j,hj,rfl,rfl,hb2⟩:=hrel;have hpl:=Dh (p:=3) (l:=v.list.take j) (d:=d - 1) (fun x hx => A4 hfine.out x (List.mem_of_mem_take hx)) (fun x hx => V.rangedL_mem hrl.out x (List.mem_of_mem_take hx)) (Nat.le_trans (V.countL_take _ _) hcnt.out);have hplc:=V.countL_take v.list j;have hcc:=hcnt.out;have up : ∀ ad u,WX.cell? ad = some u -> wr.cell? ad = some u:=Aa hb2;by_cases hlt : j < n
   · have hlti : (j : Int) < (n : Int):=by omega
     obtain ⟨x,bb,o,ax,cx,hxj,hmem,rfl,hx,d0,d1,d2,d3,d4,d5⟩:=(hvL.out.mono up).elem' hlt;replace hxj : (v.list)[j]? = some x:=hxj;replace hmem : x ∈ v.list:=hmem;have hts : v.list.take (j + 1) = v.list.take j ++ [x]:=by
       obtain ⟨h1,h2⟩:=List.getElem?_eq_some_iff.1 hxj;rw [List.take_succ_eq_append_getElem h1,h2]
     have hbx:=Co (p:=3) (A4 hfine.out x hmem) (V.rangedL_mem hrl.out x hmem) (Nat.le_trans (V.count_mem hmem) hcc);have hxc:=V.count_mem hmem;obtain ⟨U,hU⟩ : ∃ U : ByteArray,U = ⟨(Ad x 3).toArray⟩:=⟨_,rfl⟩;obtain ⟨S,hS⟩ : ∃ S : ByteArray,S = ⟨(A0 3 (v.list.take j)).toArray⟩:=⟨_,rfl⟩;have hUz : U.size <= 500000000:=by rw [hU,Aq]; show (Ad x 3).toArray.toList.length <= _; simp; omega
     have hSz : S.size <= 500000000:=by rw [hS,Aq]; show (A0 3 (v.list.take j)).toArray.toList.length <= _; simp; omega
     have hz1 : ¬ 9223372036854775807 < S.size + U.size:=by omega
     have hnext : S ++ U = ⟨(A0 3 (v.list.take (j + 1))).toArray⟩:=by
       refine D5 ?_;rw [hts,Dp,ByteArray.data_append,Array.toList_append,hS,hU]
     rw [<- hS];obtain ⟨W4,hW4⟩ : ∃ W4,W4 = wr.alloc (.cells #[.int .i64 x.kind,.string x.text,.int .i64 x.int,.float .f64 x.real,.bool x.flag,.slice ax x.list.length cx] 26):=⟨_,rfl⟩;have hb4 : Below wr.heap.size wr W4:=by rw [hW4]; exact (Below.refl _ _).alloc (Nat.le_refl _) _
     have hb24 : Below WX.heap.size WX W4:=hb2.trans (hb4.mono hb2.size);have hB:=ih.out x hmem x.kind x.text x.int x.real x.flag ax x.list.length cx (d - 1) W4 ⟨⟨hx.mono (Aa hb4),A4 hfine.out x hmem,V.rangedL_mem hrl.out x hmem,Nat.le_trans hxc hcc,(hLX.out.below hb24 (Nat.le_refl _)).mono hb24.size⟩,hpX.out.below hb24,hrX.out.below hb24⟩;rw [hW4,<- hU] at hB;replace hB:=Hd hB;replace hW4:=Hd hW4;replace hts:=Hd hts;replace hnext:=Hd hnext;replace hU:=Hd hU;replace hS:=Hd hS;replace hb24:=Hd hb24;have e0:=up _ _ c0;have e5:=up _ _ c5;clear hx hxj hbx hpl hplc hb4 up;replace hb2:=Hd hb2;go_wp2_with fail
     refine hB.out.mono ?_;rintro e w3 ⟨rfl,hb3⟩;rw [<- hW4.out] at hb3;have hb5:=hb24.out.trans (hb3.mono hb24.out.size);clear hb3 d0 d1 d2 d3 d4 d5 e0 e5;replace hb5:=Hd hb5;go_wp2_with fail
     go_roundw
     case rel => exact ⟨j + 1,by omega,by go_num,by rw [hnext.out],hb5.out⟩
     case measure => simp [intOf]; omega
   · have hlti : ¬ (j : Int) < (n : Int):=by omega
     have hjn : v.list.take j = v.list:=List.take_of_length_le (by have:=hnl.out; omega);rw [hjn] at hpl ⊢;obtain ⟨S,hS⟩ : ∃ S : ByteArray,S = ⟨(A0 3 v.list).toArray⟩:=⟨_,rfl⟩;have hSz : S.size <= 500000000:=by rw [hS,Aq]; show (A0 3 v.list).toArray.toList.length <= _; simp; omega
     have htg2:=htg.out;rw [<- hS] at htg2;rw [<- hS];have hT:=Cf (n) (by omega);have hIz : (Av ((n : Nat) : Int)).size <= 21:=Bf _ (by omega) (by omega);have e2 : (⟨#[13,10]⟩ : ByteArray).size = 2:=rfl;have hTz : (Av ((n : Nat) : Int) ++ (⟨#[13,10]⟩ : ByteArray)).size <= 23:=by rw [ByteArray.size_append]; omega
     obtain ⟨T,hTe⟩ : ∃ T,T = Av ((n : Nat) : Int) ++ (⟨#[13,10]⟩ : ByteArray):=⟨_,rfl⟩;rw [<- hTe] at hT hTz htg2;have l1 : ¬ 9223372036854775807 < 1 + T.size:=by omega
     have l2 : ¬ 9223372036854775807 < 1 + T.size + S.size:=by omega
     have e0:=up _ _ c0;have e5:=up _ _ c5;have hdv : ((n : Nat) : Int).tdiv 2 = ((n / 2 : Nat) : Int):=by rw [Int.tdiv_eq_ediv_of_nonneg (by omega)]; rfl
     replace hT:=Hd hT;replace hTe:=Hd hTe;replace hS:=Hd hS;have htg2':=Hd htg2;clear hpl hplc up hIz e2 htg2;replace hb2:=Hd hb2;go_wp2_with fail
     refine (hT.out _).mono ?_;rintro e w3 ⟨rfl,hb3⟩;have hb5:=(hbX.out.trans (hb2.out.mono hbX.out.size)).trans (hb3.mono (by have:=hbX.out.size; have:=hb2.out.size; omega));clear hb3 e0 e5;replace hb5:=Hd hb5;go_wp2_with fail
     go_ret;exact ⟨by rw [htg2'.out]; rfl,hb5.out⟩
set_option maxRecDepth 100000 in
set_option maxHeartbeats 6400000 in
theorem rb3_12 {v : V} (ih : ∀ x ∈ v.list,Ds 3 x) {t : ByteArray} {i : Int} {r : Nat} {f : Bool} {a : Option Addr} {n cap : Nat} {d : Int} {w : World} (hp : RDownH v 12 t i r f a n cap d w) :
   Calls Tryz.prog 22 #[.agg #[.int .i64 12,.string t,.int .i64 i,.float .f64 r,.bool f,.slice a n cap],.int .i64 3] w fun e w' => e = .returned (.string ⟨(Ad v 3).toArray⟩) /\ Below w.heap.size w w':=by
 have hpar:=Hd hp.par
 have hrng:=Hd hp.rng
 replace hp:=hp.d
 obtain ⟨ek,et,ei,er,ef,en⟩:=hp.val.len
 have hra:=(V.ranged_eq v).1 hp.ranged
 have hfe:=hp.fine
 rw [V.fine_eq,Bool.and_eq_true,Bool.and_eq_true] at hfe
 have hok:=Ak hfe.1.1
 obtain ⟨W1,hW1⟩ : ∃ W1,W1 = w.alloc (.cells #[.int .i64 12,.string t,.int .i64 i,.float .f64 r,.bool f,.slice a n cap] 26):=⟨_,rfl⟩
 have hb1 : Below w.heap.size w W1:=by rw [hW1]; exact (Below.refl _ _).alloc (Nat.le_refl _) _
 have hB : ∀ q u,#[.int .i64 12,.string t,.int .i64 i,.float .f64 r,.bool f,.slice a n cap][q]? = some u -> W1.cell? ⟨w.heap.size,q,none⟩ = some u:=fun q u h => by rw [hW1,World.cell?_alloc_new]; exact h
 have c0:=hB 0 _ rfl
 have c1:=hB 1 _ rfl
 have c2:=hB 2 _ rfl
 have c3:=hB 3 _ rfl
 have c4:=hB 4 _ rfl
 have c5:=hB 5 _ rfl
 have hs1 : W1.heap.size = w.heap.size + 1:=by rw [hW1]; simp
 clear hB
 have hLX : LaidV W1.heap.size W1:=(hp.laid.below hb1 (Nat.le_refl _)).mono hb1.size
 have hpX : Par W1:=hpar.out.below hb1
 have hrX : Rng W1:=hrng.out.below hb1
 have hvX:=hp.val.mono (Aa hb1)
 have htz : t.size <= 4096:=by rw [et]; exact hok.size
 have hi9 : -9223372036854775808 <= i /\ i <= 9223372036854775807:=by rw [ei]; exact ⟨hra.1,hra.2.1⟩
 have hr9 : r < 18446744073709551616:=by rw [er]; exact hra.2.2.1
 have hbX:=hb1
 obtain ⟨WX,hWX⟩ : ∃ WX,WX = W1:=⟨_,rfl⟩
 rw [<- hWX] at c0 c1 c2 c3 c4 c5 hLX hpX hrX hvX hbX
 have hsX : w.heap.size < WX.heap.size:=by rw [hWX]; omega
 replace ih:=Hd ih
 have hcn : V.countL v.list <= 100000:=by have:=hp.count; have:=v.count_eq; omega
 have hll:=V.length_le v.list
 have hn9 : n <= 100000:=by omega
 have htg : Hid ((⟨(Ad v 3).toArray⟩ : ByteArray) = (⟨#[37]⟩ : ByteArray) ++ (Av ((n / 2 : Nat) : Int) ++ (⟨#[13,10]⟩ : ByteArray)) ++ ⟨(A0 3 v.list).toArray⟩):=Hd (Bi (by
   have hw : Ad v 3 = numL (Ck 12) (Ed 12 v.list.length) ++ V.wireL v.list:=by
     unfold Ad;rw [show (if (3 : Int) = 3 then v.wire else v.down.old) = v.wire from if_pos rfl,V.wire_eq,<- ek,if_neg (by decide),if_neg (by decide),if_neg (by decide),if_neg (by decide),if_neg (by decide),if_neg (by decide),if_pos (by decide)]
   rw [hw,<- El,<- en];simp only [ByteArray.data_append,Array.toList_append,Bq,numL,B8];simp [Ck,Ed]))
 have hnl : Hid (n = v.list.length):=Hd en
 have hvL : Hid (RV WX.cell? (Ae v.kind v.text v.int v.real v.flag a n cap) v):=Hd (by rw [<- ek,<- et,<- ei,<- er,<- ef]; exact hvX)
 have hfine : Hid (V.fineL v.list (d - 1) = true):=Hd hfe.2
 have hrl : Hid (V.rangedL v.list):=Hd hra.2.2.2
 have hcnt : Hid (V.countL v.list <= 100000):=Hd hcn
 clear hcn hll
 replace hb1:=Hd hb1
 replace hW1:=Hd hW1
 replace hWX:=Hd hWX
 replace hs1:=Hd hs1
 replace hLX:=Hd hLX
 replace hpX:=Hd hpX
 replace hrX:=Hd hrX
 replace hvX:=Hd hvX
 replace hbX:=Hd hbX
 replace hfe:=Hd hfe
 replace hok:=Hd hok
 replace hp:=Hd hp
 replace ek:=Hd ek
 replace et:=Hd et
 replace ei:=Hd ei
 replace er:=Hd er
 replace ef:=Hd ef
 replace en:=Hd en
 replace hra:=Hd hra
 go_enter Tryz.func22,Tryz.ntmps22
 go_wp2_with fail
 rw [<- hW1.out,<- hWX.out]
 have hcs:=hcnt
 go_loopw [5,19] (fun s i wr => ∃ j : Nat,j <= n /\ i = .int .i64 j /\ s = .string ⟨(A0 3 (v.list.take j)).toArray⟩ /\ Below WX.heap.size WX wr) (fun _ i _ => n - (intOf i).toNat)
 case atStart => exact ⟨0,Nat.zero_le _,rfl,rfl,Below.refl _ _⟩
 case round =>
   obtain ⟨j,hj,rfl,rfl,hb2⟩:=hrel;have hpl:=Dh (p:=3) (l:=v.list.take j) (d:=d - 1) (fun x hx => A4 hfine.out x (List.mem_of_mem_take hx)) (fun x hx => V.rangedL_mem hrl.out x (List.mem_of_mem_take hx)) (Nat.le_trans (V.countL_take _ _) hcnt.out);have hplc:=V.countL_take v.list j;have hcc:=hcnt.out;have up : ∀ ad u,WX.cell? ad = some u -> wr.cell? ad = some u:=Aa hb2;by_cases hlt : j < n
   · have hlti : (j : Int) < (n : Int):=by omega
     obtain ⟨x,bb,o,ax,cx,hxj,hmem,rfl,hx,d0,d1,d2,d3,d4,d5⟩:=(hvL.out.mono up).elem' hlt;replace hxj : (v.list)[j]? = some x:=hxj;replace hmem : x ∈ v.list:=hmem;have hts : v.list.take (j + 1) = v.list.take j ++ [x]:=by
       obtain ⟨h1,h2⟩:=List.getElem?_eq_some_iff.1 hxj;rw [List.take_succ_eq_append_getElem h1,h2]
     have hbx:=Co (p:=3) (A4 hfine.out x hmem) (V.rangedL_mem hrl.out x hmem) (Nat.le_trans (V.count_mem hmem) hcc);have hxc:=V.count_mem hmem;obtain ⟨U,hU⟩ : ∃ U : ByteArray,U = ⟨(Ad x 3).toArray⟩:=⟨_,rfl⟩;obtain ⟨S,hS⟩ : ∃ S : ByteArray,S = ⟨(A0 3 (v.list.take j)).toArray⟩:=⟨_,rfl⟩;have hUz : U.size <= 500000000:=by rw [hU,Aq]; show (Ad x 3).toArray.toList.length <= _; simp; omega
     have hSz : S.size <= 500000000:=by rw [hS,Aq]; show (A0 3 (v.list.take j)).toArray.toList.length <= _; simp; omega
     have hz1 : ¬ 9223372036854775807 < S.size + U.size:=by omega
     have hnext : S ++ U = ⟨(A0 3 (v.list.take (j + 1))).toArray⟩:=by
       refine D5 ?_;rw [hts,Dp,ByteArray.data_append,Array.toList_append,hS,hU]
     rw [<- hS];obtain ⟨W4,hW4⟩ : ∃ W4,W4 = wr.alloc (.cells #[.int .i64 x.kind,.string x.text,.int .i64 x.int,.float .f64 x.real,.bool x.flag,.slice ax x.list.length cx] 26):=⟨_,rfl⟩;have hb4 : Below wr.heap.size wr W4:=by rw [hW4]; exact (Below.refl _ _).alloc (Nat.le_refl _) _
     have hb24 : Below WX.heap.size WX W4:=hb2.trans (hb4.mono hb2.size);have hB:=ih.out x hmem x.kind x.text x.int x.real x.flag ax x.list.length cx (d - 1) W4 ⟨⟨hx.mono (Aa hb4),A4 hfine.out x hmem,V.rangedL_mem hrl.out x hmem,Nat.le_trans hxc hcc,(hLX.out.below hb24 (Nat.le_refl _)).mono hb24.size⟩,hpX.out.below hb24,hrX.out.below hb24⟩;rw [hW4,<- hU] at hB;replace hB:=Hd hB;replace hW4:=Hd hW4;replace hts:=Hd hts;replace hnext:=Hd hnext;replace hU:=Hd hU;replace hS:=Hd hS;replace hb24:=Hd hb24;have e0:=up _ _ c0;have e5:=up _ _ c5;clear hx hxj hbx hpl hplc hb4 up;replace hb2:=Hd hb2;go_wp2_with fail
     refine hB.out.mono ?_;rintro e w3 ⟨rfl,hb3⟩;rw [<- hW4.out] at hb3;have hb5:=hb24.out.trans (hb3.mono hb24.out.size);clear hb3 d0 d1 d2 d3 d4 d5 e0 e5;replace hb5:=Hd hb5;go_wp2_with fail
     go_roundw
     case rel => exact ⟨j + 1,by omega,by go_num,by rw [hnext.out],hb5.out⟩
     case measure => simp [intOf]; omega
   · have hlti : ¬ (j : Int) < (n : Int):=by omega
     have hjn : v.list.take j = v.list:=List.take_of_length_le (by have:=hnl.out; omega);rw [hjn] at hpl ⊢;obtain ⟨S,hS⟩ : ∃ S : ByteArray,S = ⟨(A0 3 v.list).toArray⟩:=⟨_,rfl⟩;have hSz : S.size <= 500000000:=by rw [hS,Aq]; show (A0 3 v.list).toArray.toList.length <= _; simp; omega
     have htg2:=htg.out;rw [<- hS] at htg2;rw [<- hS];have hT:=Cf (n / 2) (by omega);have hIz : (Av ((n / 2 : Nat) : Int)).size <= 21:=Bf _ (by omega) (by omega);have e2 : (⟨#[13,10]⟩ : ByteArray).size = 2:=rfl;have hTz : (Av ((n / 2 : Nat) : Int) ++ (⟨#[13,10]⟩ : ByteArray)).size <= 23:=by rw [ByteArray.size_append]; omega
     obtain ⟨T,hTe⟩ : ∃ T,T = Av ((n / 2 : Nat) : Int) ++ (⟨#[13,10]⟩ : ByteArray):=⟨_,rfl⟩;rw [<- hTe] at hT hTz htg2;have l1 : ¬ 9223372036854775807 < 1 + T.size:=by omega
     have l2 : ¬ 9223372036854775807 < 1 + T.size + S.size:=by omega
     have e0:=up _ _ c0;have e5:=up _ _ c5;have hdv : ((n : Nat) : Int).tdiv 2 = ((n / 2 : Nat) : Int):=by rw [Int.tdiv_eq_ediv_of_nonneg (by omega)]; rfl
     replace hT:=Hd hT;replace hTe:=Hd hTe;replace hS:=Hd hS;have htg2':=Hd htg2;clear hpl hplc up hIz e2 htg2;replace hb2:=Hd hb2;go_wp2_with fail
     refine (hT.out _).mono ?_;rintro e w3 ⟨rfl,hb3⟩;have hb5:=(hbX.out.trans (hb2.out.mono hbX.out.size)).trans (hb3.mono (by have:=hbX.out.size; have:=hb2.out.size; omega));clear hb3 e0 e5;replace hb5:=Hd hb5;go_wp2_with fail
     go_ret;exact ⟨by rw [htg2'.out]; rfl,hb5.out⟩
set_option maxRecDepth 100000 in
set_option maxHeartbeats 6400000 in
theorem rb3_13 {v : V} (ih : ∀ x ∈ v.list,Ds 3 x) {t : ByteArray} {i : Int} {r : Nat} {f : Bool} {a : Option Addr} {n cap : Nat} {d : Int} {w : World} (hp : RDownH v 13 t i r f a n cap d w) :
   Calls Tryz.prog 22 #[.agg #[.int .i64 13,.string t,.int .i64 i,.float .f64 r,.bool f,.slice a n cap],.int .i64 3] w fun e w' => e = .returned (.string ⟨(Ad v 3).toArray⟩) /\ Below w.heap.size w w':=by
 have hpar:=Hd hp.par
 have hrng:=Hd hp.rng
 replace hp:=hp.d
 obtain ⟨ek,et,ei,er,ef,en⟩:=hp.val.len
 have hra:=(V.ranged_eq v).1 hp.ranged
 have hfe:=hp.fine
 rw [V.fine_eq,Bool.and_eq_true,Bool.and_eq_true] at hfe
 have hok:=Ak hfe.1.1
 obtain ⟨W1,hW1⟩ : ∃ W1,W1 = w.alloc (.cells #[.int .i64 13,.string t,.int .i64 i,.float .f64 r,.bool f,.slice a n cap] 26):=⟨_,rfl⟩
 have hb1 : Below w.heap.size w W1:=by rw [hW1]; exact (Below.refl _ _).alloc (Nat.le_refl _) _
 have hB : ∀ q u,#[.int .i64 13,.string t,.int .i64 i,.float .f64 r,.bool f,.slice a n cap][q]? = some u -> W1.cell? ⟨w.heap.size,q,none⟩ = some u:=fun q u h => by rw [hW1,World.cell?_alloc_new]; exact h
 have c0:=hB 0 _ rfl
 have c1:=hB 1 _ rfl
 have c2:=hB 2 _ rfl
 have c3:=hB 3 _ rfl
 have c4:=hB 4 _ rfl
 have c5:=hB 5 _ rfl
 have hs1 : W1.heap.size = w.heap.size + 1:=by rw [hW1]; simp
 clear hB
 have hLX : LaidV W1.heap.size W1:=(hp.laid.below hb1 (Nat.le_refl _)).mono hb1.size
 have hpX : Par W1:=hpar.out.below hb1
 have hrX : Rng W1:=hrng.out.below hb1
 have hvX:=hp.val.mono (Aa hb1)
 have htz : t.size <= 4096:=by rw [et]; exact hok.size
 have hi9 : -9223372036854775808 <= i /\ i <= 9223372036854775807:=by rw [ei]; exact ⟨hra.1,hra.2.1⟩
 have hr9 : r < 18446744073709551616:=by rw [er]; exact hra.2.2.1
 have hbX:=hb1
 obtain ⟨WX,hWX⟩ : ∃ WX,WX = W1:=⟨_,rfl⟩
 rw [<- hWX] at c0 c1 c2 c3 c4 c5 hLX hpX hrX hvX hbX
 have hsX : w.heap.size < WX.heap.size:=by rw [hWX]; omega
 replace ih:=Hd ih
 have hcn : V.countL v.list <= 100000:=by have:=hp.count; have:=v.count_eq; omega
 have hll:=V.length_le v.list
 have hn9 : n <= 100000:=by omega
 have htg : Hid ((⟨(Ad v 3).toArray⟩ : ByteArray) = (⟨#[126]⟩ : ByteArray) ++ (Av ((n : Nat) : Int) ++ (⟨#[13,10]⟩ : ByteArray)) ++ ⟨(A0 3 v.list).toArray⟩):=Hd (Bi (by
   have hw : Ad v 3 = numL (Ck 13) (Ed 13 v.list.length) ++ V.wireL v.list:=by
     unfold Ad;rw [show (if (3 : Int) = 3 then v.wire else v.down.old) = v.wire from if_pos rfl,V.wire_eq,<- ek,if_neg (by decide),if_neg (by decide),if_neg (by decide),if_neg (by decide),if_neg (by decide),if_neg (by decide),if_pos (by decide)]
   rw [hw,<- El,<- en];simp only [ByteArray.data_append,Array.toList_append,Bq,numL,B8];simp [Ck,Ed]))
 have hnl : Hid (n = v.list.length):=Hd en
 have hvL : Hid (RV WX.cell? (Ae v.kind v.text v.int v.real v.flag a n cap) v):=Hd (by rw [<- ek,<- et,<- ei,<- er,<- ef]; exact hvX)
 have hfine : Hid (V.fineL v.list (d - 1) = true):=Hd hfe.2
 have hrl : Hid (V.rangedL v.list):=Hd hra.2.2.2
 have hcnt : Hid (V.countL v.list <= 100000):=Hd hcn
 clear hcn hll
 replace hb1:=Hd hb1
 replace hW1:=Hd hW1
 replace hWX:=Hd hWX
 replace hs1:=Hd hs1
 replace hLX:=Hd hLX
 replace hpX:=Hd hpX
 replace hrX:=Hd hrX
 replace hvX:=Hd hvX
 replace hbX:=Hd hbX
 replace hfe:=Hd hfe
 replace hok:=Hd hok
 replace hp:=Hd hp
 replace ek:=Hd ek
 replace et:=Hd et
 replace ei:=Hd ei
 replace er:=Hd er
 replace ef:=Hd ef
 replace en:=Hd en
 replace hra:=Hd hra
 go_enter Tryz.func22,Tryz.ntmps22
 go_wp2_with fail
 rw [<- hW1.out,<- hWX.out]
 have hcs:=hcnt
 go_loopw [5,19] (fun s i wr => ∃ j : Nat,j <= n /\ i = .int .i64 j /\ s = .string ⟨(A0 3 (v.list.take j)).toArray⟩ /\ Below WX.heap.size WX wr) (fun _ i _ => n - (intOf i).toNat)
 case atStart => exact ⟨0,Nat.zero_le _,rfl,rfl,Below.refl _ _⟩
 case round =>
   obtain ⟨j,hj,rfl,rfl,hb2⟩:=hrel;have hpl:=Dh (p:=3) (l:=v.list.take j) (d:=d - 1) (fun x hx => A4 hfine.out x (List.mem_of_mem_take hx)) (fun x hx => V.rangedL_mem hrl.out x (List.mem_of_mem_take hx)) (Nat.le_trans (V.countL_take _ _) hcnt.out);have hplc:=V.countL_take v.list j;have hcc:=hcnt.out;have up : ∀ ad u,WX.cell? ad = some u -> wr.cell? ad = some u:=Aa hb2;by_cases hlt : j < n
   · have hlti : (j : Int) < (n : Int):=by omega
     obtain ⟨x,bb,o,ax,cx,hxj,hmem,rfl,hx,d0,d1,d2,d3,d4,d5⟩:=(hvL.out.mono up).elem' hlt;replace hxj : (v.list)[j]? = some x:=hxj;replace hmem : x ∈ v.list:=hmem;have hts : v.list.take (j + 1) = v.list.take j ++ [x]:=by
       obtain ⟨h1,h2⟩:=List.getElem?_eq_some_iff.1 hxj;rw [List.take_succ_eq_append_getElem h1,h2]
     have hbx:=Co (p:=3) (A4 hfine.out x hmem) (V.rangedL_mem hrl.out x hmem) (Nat.le_trans (V.count_mem hmem) hcc);have hxc:=V.count_mem hmem;obtain ⟨U,hU⟩ : ∃ U : ByteArray,U = ⟨(Ad x 3).toArray⟩:=⟨_,rfl⟩;obtain ⟨S,hS⟩ : ∃ S : ByteArray,S = ⟨(A0 3 (v.list.take j)).toArray⟩:=⟨_,rfl⟩;have hUz : U.size <= 500000000:=by rw [hU,Aq]; show (Ad x 3).toArray.toList.length <= _; simp; omega
     have hSz : S.size <= 500000000:=by rw [hS,Aq]; show (A0 3 (v.list.take j)).toArray.toList.length <= _; simp; omega
     have hz1 : ¬ 9223372036854775807 < S.size + U.size:=by omega
     have hnext : S ++ U = ⟨(A0 3 (v.list.take (j + 1))).toArray⟩:=by
       refine D5 ?_;rw [hts,Dp,ByteArray.data_append,Array.toList_append,hS,hU]
     rw [<- hS];obtain ⟨W4,hW4⟩ : ∃ W4,W4 = wr.alloc (.cells #[.int .i64 x.kind,.string x.text,.int .i64 x.int,.float .f64 x.real,.bool x.flag,.slice ax x.list.length cx] 26):=⟨_,rfl⟩;have hb4 : Below wr.heap.size wr W4:=by rw [hW4]; exact (Below.refl _ _).alloc (Nat.le_refl _) _
     have hb24 : Below WX.heap.size WX W4:=hb2.trans (hb4.mono hb2.size);have hB:=ih.out x hmem x.kind x.text x.int x.real x.flag ax x.list.length cx (d - 1) W4 ⟨⟨hx.mono (Aa hb4),A4 hfine.out x hmem,V.rangedL_mem hrl.out x hmem,Nat.le_trans hxc hcc,(hLX.out.below hb24 (Nat.le_refl _)).mono hb24.size⟩,hpX.out.below hb24,hrX.out.below hb24⟩;rw [hW4,<- hU] at hB;replace hB:=Hd hB;replace hW4:=Hd hW4;replace hts:=Hd hts;replace hnext:=Hd hnext;replace hU:=Hd hU;replace hS:=Hd hS;replace hb24:=Hd hb24;have e0:=up _ _ c0;have e5:=up _ _ c5;clear hx hxj hbx hpl hplc hb4 up;replace hb2:=Hd hb2;go_wp2_with fail
     refine hB.out.mono ?_;rintro e w3 ⟨rfl,hb3⟩;rw [<- hW4.out] at hb3;have hb5:=hb24.out.trans (hb3.mono hb24.out.size);clear hb3 d0 d1 d2 d3 d4 d5 e0 e5;replace hb5:=Hd hb5;go_wp2_with fail
     go_roundw
     case rel => exact ⟨j + 1,by omega,by go_num,by rw [hnext.out],hb5.out⟩
     case measure => simp [intOf]; omega
   · have hlti : ¬ (j : Int) < (n : Int):=by omega
     have hjn : v.list.take j = v.list:=List.take_of_length_le (by have:=hnl.out; omega);rw [hjn] at hpl ⊢;obtain ⟨S,hS⟩ : ∃ S : ByteArray,S = ⟨(A0 3 v.list).toArray⟩:=⟨_,rfl⟩;have hSz : S.size <= 500000000:=by rw [hS,Aq]; show (A0 3 v.list).toArray.toList.length <= _; simp; omega
     have htg2:=htg.out;rw [<- hS] at htg2;rw [<- hS];have hT:=Cf (n) (by omega);have hIz : (Av ((n : Nat) : Int)).size <= 21:=Bf _ (by omega) (by omega);have e2 : (⟨#[13,10]⟩ : ByteArray).size = 2:=rfl;have hTz : (Av ((n : Nat) : Int) ++ (⟨#[13,10]⟩ : ByteArray)).size <= 23:=by rw [ByteArray.size_append]; omega
     obtain ⟨T,hTe⟩ : ∃ T,T = Av ((n : Nat) : Int) ++ (⟨#[13,10]⟩ : ByteArray):=⟨_,rfl⟩;rw [<- hTe] at hT hTz htg2;have l1 : ¬ 9223372036854775807 < 1 + T.size:=by omega
     have l2 : ¬ 9223372036854775807 < 1 + T.size + S.size:=by omega
     have e0:=up _ _ c0;have e5:=up _ _ c5;have hdv : ((n : Nat) : Int).tdiv 2 = ((n / 2 : Nat) : Int):=by rw [Int.tdiv_eq_ediv_of_nonneg (by omega)]; rfl
     replace hT:=Hd hT;replace hTe:=Hd hTe;replace hS:=Hd hS;have htg2':=Hd htg2;clear hpl hplc up hIz e2 htg2;replace hb2:=Hd hb2;go_wp2_with fail
     refine (hT.out _).mono ?_;rintro e w3 ⟨rfl,hb3⟩;have hb5:=(hbX.out.trans (hb2.out.mono hbX.out.size)).trans (hb3.mono (by have:=hbX.out.size; have:=hb2.out.size; omega));clear hb3 e0 e5;replace hb5:=Hd hb5;go_wp2_with fail
     go_ret;exact ⟨by rw [htg2'.out]; rfl,hb5.out⟩
set_option maxRecDepth 100000 in
set_option maxHeartbeats 6400000 in
theorem rb3_14 {v : V} (ih : ∀ x ∈ v.list,Ds 3 x) {t : ByteArray} {i : Int} {r : Nat} {f : Bool} {a : Option Addr} {n cap : Nat} {d : Int} {w : World} (hp : RDownH v 14 t i r f a n cap d w) :
   Calls Tryz.prog 22 #[.agg #[.int .i64 14,.string t,.int .i64 i,.float .f64 r,.bool f,.slice a n cap],.int .i64 3] w fun e w' => e = .returned (.string ⟨(Ad v 3).toArray⟩) /\ Below w.heap.size w w':=by
 have hpar:=Hd hp.par
 have hrng:=Hd hp.rng
 replace hp:=hp.d
 obtain ⟨ek,et,ei,er,ef,en⟩:=hp.val.len
 have hra:=(V.ranged_eq v).1 hp.ranged
 have hfe:=hp.fine
 rw [V.fine_eq,Bool.and_eq_true,Bool.and_eq_true] at hfe
 have hok:=Ak hfe.1.1
 obtain ⟨W1,hW1⟩ : ∃ W1,W1 = w.alloc (.cells #[.int .i64 14,.string t,.int .i64 i,.float .f64 r,.bool f,.slice a n cap] 26):=⟨_,rfl⟩
 have hb1 : Below w.heap.size w W1:=by rw [hW1]; exact (Below.refl _ _).alloc (Nat.le_refl _) _
 have hB : ∀ q u,#[.int .i64 14,.string t,.int .i64 i,.float .f64 r,.bool f,.slice a n cap][q]? = some u -> W1.cell? ⟨w.heap.size,q,none⟩ = some u:=fun q u h => by rw [hW1,World.cell?_alloc_new]; exact h
 have c0:=hB 0 _ rfl
 have c1:=hB 1 _ rfl
 have c2:=hB 2 _ rfl
 have c3:=hB 3 _ rfl
 have c4:=hB 4 _ rfl
 have c5:=hB 5 _ rfl
 have hs1 : W1.heap.size = w.heap.size + 1:=by rw [hW1]; simp
 clear hB
 have hLX : LaidV W1.heap.size W1:=(hp.laid.below hb1 (Nat.le_refl _)).mono hb1.size
 have hpX : Par W1:=hpar.out.below hb1
 have hrX : Rng W1:=hrng.out.below hb1
 have hvX:=hp.val.mono (Aa hb1)
 have htz : t.size <= 4096:=by rw [et]; exact hok.size
 have hi9 : -9223372036854775808 <= i /\ i <= 9223372036854775807:=by rw [ei]; exact ⟨hra.1,hra.2.1⟩
 have hr9 : r < 18446744073709551616:=by rw [er]; exact hra.2.2.1
 have hbX:=hb1
 obtain ⟨WX,hWX⟩ : ∃ WX,WX = W1:=⟨_,rfl⟩
 rw [<- hWX] at c0 c1 c2 c3 c4 c5 hLX hpX hrX hvX hbX
 have hsX : w.heap.size < WX.heap.size:=by rw [hWX]; omega
 replace ih:=Hd ih
 have hcn : V.countL v.list <= 100000:=by have:=hp.count; have:=v.count_eq; omega
 have hll:=V.length_le v.list
 have hn9 : n <= 100000:=by omega
 have htg : Hid ((⟨(Ad v 3).toArray⟩ : ByteArray) = (⟨#[62]⟩ : ByteArray) ++ (Av ((n : Nat) : Int) ++ (⟨#[13,10]⟩ : ByteArray)) ++ ⟨(A0 3 v.list).toArray⟩):=Hd (Bi (by
   have hw : Ad v 3 = numL (Ck 14) (Ed 14 v.list.length) ++ V.wireL v.list:=by
     unfold Ad;rw [show (if (3 : Int) = 3 then v.wire else v.down.old) = v.wire from if_pos rfl,V.wire_eq,<- ek,if_neg (by decide),if_neg (by decide),if_neg (by decide),if_neg (by decide),if_neg (by decide),if_neg (by decide),if_pos (by decide)]
   rw [hw,<- El,<- en];simp only [ByteArray.data_append,Array.toList_append,Bq,numL,B8];simp [Ck,Ed]))
 have hnl : Hid (n = v.list.length):=Hd en
 have hvL : Hid (RV WX.cell? (Ae v.kind v.text v.int v.real v.flag a n cap) v):=Hd (by rw [<- ek,<- et,<- ei,<- er,<- ef]; exact hvX)
 have hfine : Hid (V.fineL v.list (d - 1) = true):=Hd hfe.2
 have hrl : Hid (V.rangedL v.list):=Hd hra.2.2.2
 have hcnt : Hid (V.countL v.list <= 100000):=Hd hcn
 clear hcn hll
 replace hb1:=Hd hb1
 replace hW1:=Hd hW1
 replace hWX:=Hd hWX
 replace hs1:=Hd hs1
 replace hLX:=Hd hLX
 replace hpX:=Hd hpX
 replace hrX:=Hd hrX
 replace hvX:=Hd hvX
 replace hbX:=Hd hbX
 replace hfe:=Hd hfe
 replace hok:=Hd hok
 replace hp:=Hd hp
 replace ek:=Hd ek
 replace et:=Hd et
 replace ei:=Hd ei
 replace er:=Hd er
 replace ef:=Hd ef
 replace en:=Hd en
 replace hra:=Hd hra
 go_enter Tryz.func22,Tryz.ntmps22
 go_wp2_with fail
 rw [<- hW1.out,<- hWX.out]
 have hcs:=hcnt
 go_loopw [5,19] (fun s i wr => ∃ j : Nat,j <= n /\ i = .int .i64 j /\ s = .string ⟨(A0 3 (v.list.take j)).toArray⟩ /\ Below WX.heap.size WX wr) (fun _ i _ => n - (intOf i).toNat)
 case atStart => exact ⟨0,Nat.zero_le _,rfl,rfl,Below.refl _ _⟩
 case round =>
   obtain ⟨j,hj,rfl,rfl,hb2⟩:=hrel;have hpl:=Dh (p:=3) (l:=v.list.take j) (d:=d - 1) (fun x hx => A4 hfine.out x (List.mem_of_mem_take hx)) (fun x hx => V.rangedL_mem hrl.out x (List.mem_of_mem_take hx)) (Nat.le_trans (V.countL_take _ _) hcnt.out);have hplc:=V.countL_take v.list j;have hcc:=hcnt.out;have up : ∀ ad u,WX.cell? ad = some u -> wr.cell? ad = some u:=Aa hb2;by_cases hlt : j < n
   · have hlti : (j : Int) < (n : Int):=by omega
     obtain ⟨x,bb,o,ax,cx,hxj,hmem,rfl,hx,d0,d1,d2,d3,d4,d5⟩:=(hvL.out.mono up).elem' hlt;replace hxj : (v.list)[j]? = some x:=hxj;replace hmem : x ∈ v.list:=hmem;have hts : v.list.take (j + 1) = v.list.take j ++ [x]:=by
       obtain ⟨h1,h2⟩:=List.getElem?_eq_some_iff.1 hxj;rw [List.take_succ_eq_append_getElem h1,h2]
     have hbx:=Co (p:=3) (A4 hfine.out x hmem) (V.rangedL_mem hrl.out x hmem) (Nat.le_trans (V.count_mem hmem) hcc);have hxc:=V.count_mem hmem;obtain ⟨U,hU⟩ : ∃ U : ByteArray,U = ⟨(Ad x 3).toArray⟩:=⟨_,rfl⟩;obtain ⟨S,hS⟩ : ∃ S : ByteArray,S = ⟨(A0 3 (v.list.take j)).toArray⟩:=⟨_,rfl⟩;have hUz : U.size <= 500000000:=by rw [hU,Aq]; show (Ad x 3).toArray.toList.length <= _; simp; omega
     have hSz : S.size <= 500000000:=by rw [hS,Aq]; show (A0 3 (v.list.take j)).toArray.toList.length <= _; simp; omega
     have hz1 : ¬ 9223372036854775807 < S.size + U.size:=by omega
     have hnext : S ++ U = ⟨(A0 3 (v.list.take (j + 1))).toArray⟩:=by
       refine D5 ?_;rw [hts,Dp,ByteArray.data_append,Array.toList_append,hS,hU]
     rw [<- hS];obtain ⟨W4,hW4⟩ : ∃ W4,W4 = wr.alloc (.cells #[.int .i64 x.kind,.string x.text,.int .i64 x.int,.float .f64 x.real,.bool x.flag,.slice ax x.list.length cx] 26):=⟨_,rfl⟩;have hb4 : Below wr.heap.size wr W4:=by rw [hW4]; exact (Below.refl _ _).alloc (Nat.le_refl _) _
     have hb24 : Below WX.heap.size WX W4:=hb2.trans (hb4.mono hb2.size);have hB:=ih.out x hmem x.kind x.text x.int x.real x.flag ax x.list.length cx (d - 1) W4 ⟨⟨hx.mono (Aa hb4),A4 hfine.out x hmem,V.rangedL_mem hrl.out x hmem,Nat.le_trans hxc hcc,(hLX.out.below hb24 (Nat.le_refl _)).mono hb24.size⟩,hpX.out.below hb24,hrX.out.below hb24⟩;rw [hW4,<- hU] at hB;replace hB:=Hd hB;replace hW4:=Hd hW4;replace hts:=Hd hts;replace hnext:=Hd hnext;replace hU:=Hd hU;replace hS:=Hd hS;replace hb24:=Hd hb24;have e0:=up _ _ c0;have e5:=up _ _ c5;clear hx hxj hbx hpl hplc hb4 up;replace hb2:=Hd hb2;go_wp2_with fail
     refine hB.out.mono ?_;rintro e w3 ⟨rfl,hb3⟩;rw [<- hW4.out] at hb3;have hb5:=hb24.out.trans (hb3.mono hb24.out.size);clear hb3 d0 d1 d2 d3 d4 d5 e0 e5;replace hb5:=Hd hb5;go_wp2_with fail
     go_roundw
     case rel => exact ⟨j + 1,by omega,by go_num,by rw [hnext.out],hb5.out⟩
     case measure => simp [intOf]; omega
   · have hlti : ¬ (j : Int) < (n : Int):=by omega
     have hjn : v.list.take j = v.list:=List.take_of_length_le (by have:=hnl.out; omega);rw [hjn] at hpl ⊢;obtain ⟨S,hS⟩ : ∃ S : ByteArray,S = ⟨(A0 3 v.list).toArray⟩:=⟨_,rfl⟩;have hSz : S.size <= 500000000:=by rw [hS,Aq]; show (A0 3 v.list).toArray.toList.length <= _; simp; omega
     have htg2:=htg.out;rw [<- hS] at htg2;rw [<- hS];have hT:=Cf (n) (by omega);have hIz : (Av ((n : Nat) : Int)).size <= 21:=Bf _ (by omega) (by omega);have e2 : (⟨#[13,10]⟩ : ByteArray).size = 2:=rfl;have hTz : (Av ((n : Nat) : Int) ++ (⟨#[13,10]⟩ : ByteArray)).size <= 23:=by rw [ByteArray.size_append]; omega
     obtain ⟨T,hTe⟩ : ∃ T,T = Av ((n : Nat) : Int) ++ (⟨#[13,10]⟩ : ByteArray):=⟨_,rfl⟩;rw [<- hTe] at hT hTz htg2;have l1 : ¬ 9223372036854775807 < 1 + T.size:=by omega
     have l2 : ¬ 9223372036854775807 < 1 + T.size + S.size:=by omega
     have e0:=up _ _ c0;have e5:=up _ _ c5;have hdv : ((n : Nat) : Int).tdiv 2 = ((n / 2 : Nat) : Int):=by rw [Int.tdiv_eq_ediv_of_nonneg (by omega)]; rfl
     replace hT:=Hd hT;replace hTe:=Hd hTe;replace hS:=Hd hS;have htg2':=Hd htg2;clear hpl hplc up hIz e2 htg2;replace hb2:=Hd hb2;go_wp2_with fail
     refine (hT.out _).mono ?_;rintro e w3 ⟨rfl,hb3⟩;have hb5:=(hbX.out.trans (hb2.out.mono hbX.out.size)).trans (hb3.mono (by have:=hbX.out.size; have:=hb2.out.size; omega));clear hb3 e0 e5;replace hb5:=Hd hb5;go_wp2_with fail
     go_ret;exact ⟨by rw [htg2'.out]; rfl,hb5.out⟩
theorem rb3_any (v : V) : Ds 3 v:=by
 induction v using V.ind with
 | h v ih =>
 intro k t i r f a n cap d w hp;have hk : 1 <= k /\ k <= 14:=by
   have hfe:=hp.d.fine;rw [V.fine_eq,Bool.and_eq_true,Bool.and_eq_true] at hfe;rw [hp.d.val.len.1];exact (Ak hfe.1.1).kind
 rcases (by omega : k = 1 \/ k = 2 \/ k = 9 \/ k = 3 \/ k = 7 \/ k = 8 \/ k = 6 \/ k = 4 \/ k = 10 \/ k = 11 \/ k = 12 \/ k = 5 \/ k = 13 \/ k = 14) with rfl | rfl | rfl | rfl | rfl | rfl | rfl | rfl | rfl | rfl | rfl | rfl | rfl | rfl
 · exact rb3_1 hp
 · exact rb3_2 hp
 · exact rb3_9 hp
 · exact rb3_3 hp
 · exact rb3_7 hp
 · exact rb3_8 hp
 · exact rb3_6 hp
 · exact rb3_4 hp
 · exact rb3_10 hp
 · exact rb3_11 hp
 · exact rb3_12 ih hp
 · exact rb3_5 ih hp
 · exact rb3_13 ih hp
 · exact rb3_14 ih hp
set_option maxRecDepth 100000 in
set_option maxHeartbeats 6400000 in
theorem rb2_1 {v : V} {p : Int} (hp3 : p ≠ 3) (hk2 : v.down.kind = 1) {k0 : Int} {t0 : ByteArray} {i0 : Int} {r0 : Nat} {f0 : Bool} {a0 : Option Addr} {n0 cap0 : Nat} {d : Int} {w : World} (hp : RDownH v k0 t0 i0 r0 f0 a0 n0 cap0 d w) :
   Calls Tryz.prog 22 #[.agg #[.int .i64 k0,.string t0,.int .i64 i0,.float .f64 r0,.bool f0,.slice a0 n0 cap0],.int .i64 p] w fun e w' => e = .returned (.string ⟨(Ad v p).toArray⟩) /\ Below w.heap.size w w':=by
 have hpar:=Hd hp.par
 have hrng:=Hd hp.rng
 replace hp:=hp.d
 have hokd:=Dm v d hp.fine hp.ranged
 obtain ⟨W1,hW1⟩ : ∃ W1,W1 = w.alloc (.cells #[.int .i64 k0,.string t0,.int .i64 i0,.float .f64 r0,.bool f0,.slice a0 n0 cap0] 26):=⟨_,rfl⟩
 have hb1 : Below w.heap.size w W1:=by rw [hW1]; exact (Below.refl _ _).alloc (Nat.le_refl _) _
 have hs1 : W1.heap.size = w.heap.size + 1:=by rw [hW1]; simp
 have hrA : W1.rangeAt w.heap.size 0 [.int .i64 k0,.string t0,.int .i64 i0,.float .f64 r0,.bool f0,.slice a0 n0 cap0]:=by rw [hW1]; intro q u hq; rw [Nat.zero_add,World.cell?_alloc_new]; simpa using hq
 have hkA : Blk W1 w.heap.size:=by rw [hW1]; exact Blk.new _ _ _
 have hdn:=R2.rdown_any v k0 t0 i0 r0 f0 a0 n0 cap0 d W1 ⟨⟨hp.val.mono (Aa hb1),hp.fine,hp.ranged,hp.count,(hp.laid.below hb1 (Nat.le_refl _)).mono hb1.size⟩,hpar.out.below hb1,hrng.out.below hb1⟩
 unfold Ci at hdn
 have hbp : Ad v p = v.down.old:=if_neg hp3
 have hdd:=V.down_down v
 have hcu : v.down.count <= 100000:=by rw [hokd.count]; exact hp.count
 have hfu:=hokd.fine
 have hru:=hokd.ranged
 clear hokd
 generalize v.down = u at *
 obtain ⟨kk,t,i,r,f,l⟩:=u
 dsimp only [V.kind,V.text,V.int,V.real,V.flag,V.list] at *
 subst hk2
 have hfe:=hfu
 rw [V.fine_eq,Bool.and_eq_true,Bool.and_eq_true] at hfe
 have hok:=Ak hfe.1.1
 have hra:=(V.ranged_eq _).1 hru
 have htz : t.size <= 4096:=hok.size
 have hi9 : -9223372036854775808 <= i /\ i <= 9223372036854775807:=⟨hra.1,hra.2.1⟩
 have hr9 : r < 18446744073709551616:=hra.2.2.1
 have hL1 : LaidV W1.heap.size W1:=(hp.laid.below hb1 (Nat.le_refl _)).mono hb1.size
 have hq3 : (p != 3) = true:=by simpa using hp3
 have htg : Hid ((⟨(Ad v p).toArray⟩ : ByteArray) = (⟨#[43]⟩ : ByteArray) ++ t ++ ⟨#[13,10]⟩):=Hd (Bi (by
   rw [hbp,V.old_eq,if_neg (by show ¬ (1 : Int) = 6; decide),if_neg (by show ¬ (1 : Int) = 5; decide),V.wire_eq,if_pos (by show (1 : Int) = 1 \/ (1 : Int) = 2 \/ (1 : Int) = 9; decide),ByteArray.data_append,ByteArray.data_append,Array.toList_append,Array.toList_append]; rfl))
 replace hdn:=Hd hdn
 replace hW1:=Hd hW1
 replace hb1:=Hd hb1
 replace hs1:=Hd hs1
 replace hrA:=Hd hrA
 replace hkA:=Hd hkA
 replace hp:=Hd hp
 replace hfe:=Hd hfe
 replace hok:=Hd hok
 replace hra:=Hd hra
 replace hfu:=Hd hfu
 replace hru:=Hd hru
 replace hbp:=Hd hbp
 replace hdd:=Hd hdd
 replace hL1:=Hd hL1
 go_enter Tryz.func22,Tryz.ntmps22
 go_upto_region 2 with fail
 rw [<- hW1.out]
 go_wp2_with (refine wpList_load_mid rfl 26 _ rfl w.heap.size 0 rfl _ _ hrA.out Tryz.underlying26 rfl Ac ?_)
 refine hdn.out.mono ?_
 rintro e w2 ⟨a,cap,rfl,hrv,hb2⟩
 have hsw:=hs1.out
 have hss2:=hb2.size
 obtain ⟨n,hn⟩ : ∃ n,n = l.length:=⟨_,rfl⟩
 rw [<- hn] at hrv ⊢
 have htA:=Az (n:=6) (Ab hb2 hrA.out) (hkA.out.of_block (hb2.block _ (by omega))) rfl
 obtain ⟨WX,hWX⟩ : ∃ WX,WX = w2.setCells w.heap.size 0 [.int .i64 1,.string t,.int .i64 i,.float .f64 r,.bool f,.slice a n cap]:=⟨_,rfl⟩
 have hfrX : Fr (fun k => k = w.heap.size) w2 WX:=by rw [hWX]; exact Fr.setCells (S:=fun k => k = w.heap.size) (fun _ => rfl) _ _ _ (Fr.refl _ w2)
 have hrX6 : WX.rangeAt w.heap.size 0 [.int .i64 1,.string t,.int .i64 i,.float .f64 r,.bool f,.slice a n cap]:=by rw [hWX]; exact World.rangeAt_setCells_same _ _ _ _ htA
 have c0 : WX.cell? ⟨w.heap.size,0,none⟩ = some (.int .i64 1):=by have:=hrX6 0 _ rfl; simpa using this
 have c1 : WX.cell? ⟨w.heap.size,1,none⟩ = some (.string t):=by have:=hrX6 1 _ rfl; simpa using this
 have c2 : WX.cell? ⟨w.heap.size,2,none⟩ = some (.int .i64 i):=by have:=hrX6 2 _ rfl; simpa using this
 have c3 : WX.cell? ⟨w.heap.size,3,none⟩ = some (.float .f64 r):=by have:=hrX6 3 _ rfl; simpa using this
 have c4 : WX.cell? ⟨w.heap.size,4,none⟩ = some (.bool f):=by have:=hrX6 4 _ rfl; simpa using this
 have c5 : WX.cell? ⟨w.heap.size,5,none⟩ = some (.slice a n cap):=by have:=hrX6 5 _ rfl; simpa using this
 have hvX : RV WX.cell? (Ae 1 t i r f a n cap) (.mk 1 t i r f l):=hrv.mono (fun ad u h => hfrX.cell (A8 h).1 (fun e => by have:=(A8 h).2; omega))
 have hbX : Below w.heap.size w WX:=(hb1.out.trans (hb2.mono hb1.out.size)).trans (hfrX.below (by omega) (fun j hj e => by omega))
 have hLX : LaidV WX.heap.size WX:=by
   have h1:=hp.out.laid.below hbX (Nat.le_refl _);exact h1.mono hbX.size
 have hpX : Par WX:=hpar.out.below hbX
 have hrX : Rng WX:=hrng.out.below hbX
 have hsX : w.heap.size < WX.heap.size:=by have:=hfrX.size; omega
 replace htA:=Hd htA
 replace hWX:=Hd hWX
 replace hvX:=Hd hvX
 replace hbX:=Hd hbX
 replace hLX:=Hd hLX
 replace hpX:=Hd hpX
 replace hrX:=Hd hrX
 clear hrv hb2 hfrX hrX6 hsw hss2
 have hl0 : l = []:=hok.out.list (by have hkk : (V.mk 1 t i r f l).kind = 1:=rfl; rw [hkk]; decide)
 have hn0 : n = 0:=by rw [hn,hl0]; rfl
 clear hl0
 subst hn0
 replace hn:=Hd hn
 go_wp2_with (first | (refine wpList_store_mid rfl 26 _ _ rfl w.heap.size 0 _ rfl rfl htA.out Ac (one6 _ _ _ _ _ _ _ _) ?_; rw [<- hWX.out]))
 go_loopw [5,19] (fun s i wr => s = .string ⟨#[]⟩ /\ i = .int .i64 0 /\ wr = WX) (fun _ _ _ => 0)
 case atStart => exact ⟨rfl,rfl,rfl⟩
 case round =>
   obtain ⟨rfl,rfl,hww⟩:=hrel;obtain rfl:=hww.symm;clear hww;have l1 : ¬ 9223372036854775807 < 1 + t.size:=by omega
   have l2 : ¬ 9223372036854775807 < 1 + t.size + 2:=by omega
   go_wp2;go_ret;exact ⟨by rw [htg.out]; rfl,hbX.out⟩
set_option maxRecDepth 100000 in
set_option maxHeartbeats 6400000 in
theorem rb2_2 {v : V} {p : Int} (hp3 : p ≠ 3) (hk2 : v.down.kind = 2) {k0 : Int} {t0 : ByteArray} {i0 : Int} {r0 : Nat} {f0 : Bool} {a0 : Option Addr} {n0 cap0 : Nat} {d : Int} {w : World} (hp : RDownH v k0 t0 i0 r0 f0 a0 n0 cap0 d w) :
   Calls Tryz.prog 22 #[.agg #[.int .i64 k0,.string t0,.int .i64 i0,.float .f64 r0,.bool f0,.slice a0 n0 cap0],.int .i64 p] w fun e w' => e = .returned (.string ⟨(Ad v p).toArray⟩) /\ Below w.heap.size w w':=by
 have hpar:=Hd hp.par
 have hrng:=Hd hp.rng
 replace hp:=hp.d
 have hokd:=Dm v d hp.fine hp.ranged
 obtain ⟨W1,hW1⟩ : ∃ W1,W1 = w.alloc (.cells #[.int .i64 k0,.string t0,.int .i64 i0,.float .f64 r0,.bool f0,.slice a0 n0 cap0] 26):=⟨_,rfl⟩
 have hb1 : Below w.heap.size w W1:=by rw [hW1]; exact (Below.refl _ _).alloc (Nat.le_refl _) _
 have hs1 : W1.heap.size = w.heap.size + 1:=by rw [hW1]; simp
 have hrA : W1.rangeAt w.heap.size 0 [.int .i64 k0,.string t0,.int .i64 i0,.float .f64 r0,.bool f0,.slice a0 n0 cap0]:=by rw [hW1]; intro q u hq; rw [Nat.zero_add,World.cell?_alloc_new]; simpa using hq
 have hkA : Blk W1 w.heap.size:=by rw [hW1]; exact Blk.new _ _ _
 have hdn:=R2.rdown_any v k0 t0 i0 r0 f0 a0 n0 cap0 d W1 ⟨⟨hp.val.mono (Aa hb1),hp.fine,hp.ranged,hp.count,(hp.laid.below hb1 (Nat.le_refl _)).mono hb1.size⟩,hpar.out.below hb1,hrng.out.below hb1⟩
 unfold Ci at hdn
 have hbp : Ad v p = v.down.old:=if_neg hp3
 have hdd:=V.down_down v
 have hcu : v.down.count <= 100000:=by rw [hokd.count]; exact hp.count
 have hfu:=hokd.fine
 have hru:=hokd.ranged
 clear hokd
 generalize v.down = u at *
 obtain ⟨kk,t,i,r,f,l⟩:=u
 dsimp only [V.kind,V.text,V.int,V.real,V.flag,V.list] at *
 subst hk2
 have hfe:=hfu
 rw [V.fine_eq,Bool.and_eq_true,Bool.and_eq_true] at hfe
 have hok:=Ak hfe.1.1
 have hra:=(V.ranged_eq _).1 hru
 have htz : t.size <= 4096:=hok.size
 have hi9 : -9223372036854775808 <= i /\ i <= 9223372036854775807:=⟨hra.1,hra.2.1⟩
 have hr9 : r < 18446744073709551616:=hra.2.2.1
 have hL1 : LaidV W1.heap.size W1:=(hp.laid.below hb1 (Nat.le_refl _)).mono hb1.size
 have hq3 : (p != 3) = true:=by simpa using hp3
 have htg : Hid ((⟨(Ad v p).toArray⟩ : ByteArray) = (⟨#[45]⟩ : ByteArray) ++ t ++ ⟨#[13,10]⟩):=Hd (Bi (by
   rw [hbp,V.old_eq,if_neg (by show ¬ (2 : Int) = 6; decide),if_neg (by show ¬ (2 : Int) = 5; decide),V.wire_eq,if_pos (by show (2 : Int) = 1 \/ (2 : Int) = 2 \/ (2 : Int) = 9; decide),ByteArray.data_append,ByteArray.data_append,Array.toList_append,Array.toList_append]; rfl))
 replace hdn:=Hd hdn
 replace hW1:=Hd hW1
 replace hb1:=Hd hb1
 replace hs1:=Hd hs1
 replace hrA:=Hd hrA
 replace hkA:=Hd hkA
 replace hp:=Hd hp
 replace hfe:=Hd hfe
 replace hok:=Hd hok
 replace hra:=Hd hra
 replace hfu:=Hd hfu
 replace hru:=Hd hru
 replace hbp:=Hd hbp
 replace hdd:=Hd hdd
 replace hL1:=Hd hL1
 go_enter Tryz.func22,Tryz.ntmps22
 go_upto_region 2 with fail
 rw [<- hW1.out]
 go_wp2_with (refine wpList_load_mid rfl 26 _ rfl w.heap.size 0 rfl _ _ hrA.out Tryz.underlying26 rfl Ac ?_)
 refine hdn.out.mono ?_
 rintro e w2 ⟨a,cap,rfl,hrv,hb2⟩
 have hsw:=hs1.out
 have hss2:=hb2.size
 obtain ⟨n,hn⟩ : ∃ n,n = l.length:=⟨_,rfl⟩
 rw [<- hn] at hrv ⊢
 have htA:=Az (n:=6) (Ab hb2 hrA.out) (hkA.out.of_block (hb2.block _ (by omega))) rfl
 obtain ⟨WX,hWX⟩ : ∃ WX,WX = w2.setCells w.heap.size 0 [.int .i64 2,.string t,.int .i64 i,.float .f64 r,.bool f,.slice a n cap]:=⟨_,rfl⟩
 have hfrX : Fr (fun k => k = w.heap.size) w2 WX:=by rw [hWX]; exact Fr.setCells (S:=fun k => k = w.heap.size) (fun _ => rfl) _ _ _ (Fr.refl _ w2)
 have hrX6 : WX.rangeAt w.heap.size 0 [.int .i64 2,.string t,.int .i64 i,.float .f64 r,.bool f,.slice a n cap]:=by rw [hWX]; exact World.rangeAt_setCells_same _ _ _ _ htA
 have c0 : WX.cell? ⟨w.heap.size,0,none⟩ = some (.int .i64 2):=by have:=hrX6 0 _ rfl; simpa using this
 have c1 : WX.cell? ⟨w.heap.size,1,none⟩ = some (.string t):=by have:=hrX6 1 _ rfl; simpa using this
 have c2 : WX.cell? ⟨w.heap.size,2,none⟩ = some (.int .i64 i):=by have:=hrX6 2 _ rfl; simpa using this
 have c3 : WX.cell? ⟨w.heap.size,3,none⟩ = some (.float .f64 r):=by have:=hrX6 3 _ rfl; simpa using this
 have c4 : WX.cell? ⟨w.heap.size,4,none⟩ = some (.bool f):=by have:=hrX6 4 _ rfl; simpa using this
 have c5 : WX.cell? ⟨w.heap.size,5,none⟩ = some (.slice a n cap):=by have:=hrX6 5 _ rfl; simpa using this
 have hvX : RV WX.cell? (Ae 2 t i r f a n cap) (.mk 2 t i r f l):=hrv.mono (fun ad u h => hfrX.cell (A8 h).1 (fun e => by have:=(A8 h).2; omega))
 have hbX : Below w.heap.size w WX:=(hb1.out.trans (hb2.mono hb1.out.size)).trans (hfrX.below (by omega) (fun j hj e => by omega))
 have hLX : LaidV WX.heap.size WX:=by
   have h1:=hp.out.laid.below hbX (Nat.le_refl _);exact h1.mono hbX.size
 have hpX : Par WX:=hpar.out.below hbX
 have hrX : Rng WX:=hrng.out.below hbX
 have hsX : w.heap.size < WX.heap.size:=by have:=hfrX.size; omega
 replace htA:=Hd htA
 replace hWX:=Hd hWX
 replace hvX:=Hd hvX
 replace hbX:=Hd hbX
 replace hLX:=Hd hLX
 replace hpX:=Hd hpX
 replace hrX:=Hd hrX
 clear hrv hb2 hfrX hrX6 hsw hss2
 have hl0 : l = []:=hok.out.list (by have hkk : (V.mk 2 t i r f l).kind = 2:=rfl; rw [hkk]; decide)
 have hn0 : n = 0:=by rw [hn,hl0]; rfl
 clear hl0
 subst hn0
 replace hn:=Hd hn
 go_wp2_with (first | (refine wpList_store_mid rfl 26 _ _ rfl w.heap.size 0 _ rfl rfl htA.out Ac (one6 _ _ _ _ _ _ _ _) ?_; rw [<- hWX.out]))
 go_loopw [5,19] (fun s i wr => s = .string ⟨#[]⟩ /\ i = .int .i64 0 /\ wr = WX) (fun _ _ _ => 0)
 case atStart => exact ⟨rfl,rfl,rfl⟩
 case round =>
   obtain ⟨rfl,rfl,hww⟩:=hrel;obtain rfl:=hww.symm;clear hww;have l1 : ¬ 9223372036854775807 < 1 + t.size:=by omega
   have l2 : ¬ 9223372036854775807 < 1 + t.size + 2:=by omega
   go_wp2;go_ret;exact ⟨by rw [htg.out]; rfl,hbX.out⟩
set_option maxRecDepth 100000 in
set_option maxHeartbeats 6400000 in
theorem rb2_3 {v : V} {p : Int} (hp3 : p ≠ 3) (hk2 : v.down.kind = 3) {k0 : Int} {t0 : ByteArray} {i0 : Int} {r0 : Nat} {f0 : Bool} {a0 : Option Addr} {n0 cap0 : Nat} {d : Int} {w : World} (hp : RDownH v k0 t0 i0 r0 f0 a0 n0 cap0 d w) :
   Calls Tryz.prog 22 #[.agg #[.int .i64 k0,.string t0,.int .i64 i0,.float .f64 r0,.bool f0,.slice a0 n0 cap0],.int .i64 p] w fun e w' => e = .returned (.string ⟨(Ad v p).toArray⟩) /\ Below w.heap.size w w':=by
 have hpar:=Hd hp.par
 have hrng:=Hd hp.rng
 replace hp:=hp.d
 have hokd:=Dm v d hp.fine hp.ranged
 obtain ⟨W1,hW1⟩ : ∃ W1,W1 = w.alloc (.cells #[.int .i64 k0,.string t0,.int .i64 i0,.float .f64 r0,.bool f0,.slice a0 n0 cap0] 26):=⟨_,rfl⟩
 have hb1 : Below w.heap.size w W1:=by rw [hW1]; exact (Below.refl _ _).alloc (Nat.le_refl _) _
 have hs1 : W1.heap.size = w.heap.size + 1:=by rw [hW1]; simp
 have hrA : W1.rangeAt w.heap.size 0 [.int .i64 k0,.string t0,.int .i64 i0,.float .f64 r0,.bool f0,.slice a0 n0 cap0]:=by rw [hW1]; intro q u hq; rw [Nat.zero_add,World.cell?_alloc_new]; simpa using hq
 have hkA : Blk W1 w.heap.size:=by rw [hW1]; exact Blk.new _ _ _
 have hdn:=R2.rdown_any v k0 t0 i0 r0 f0 a0 n0 cap0 d W1 ⟨⟨hp.val.mono (Aa hb1),hp.fine,hp.ranged,hp.count,(hp.laid.below hb1 (Nat.le_refl _)).mono hb1.size⟩,hpar.out.below hb1,hrng.out.below hb1⟩
 unfold Ci at hdn
 have hbp : Ad v p = v.down.old:=if_neg hp3
 have hdd:=V.down_down v
 have hcu : v.down.count <= 100000:=by rw [hokd.count]; exact hp.count
 have hfu:=hokd.fine
 have hru:=hokd.ranged
 clear hokd
 generalize v.down = u at *
 obtain ⟨kk,t,i,r,f,l⟩:=u
 dsimp only [V.kind,V.text,V.int,V.real,V.flag,V.list] at *
 subst hk2
 have hfe:=hfu
 rw [V.fine_eq,Bool.and_eq_true,Bool.and_eq_true] at hfe
 have hok:=Ak hfe.1.1
 have hra:=(V.ranged_eq _).1 hru
 have htz : t.size <= 4096:=hok.size
 have hi9 : -9223372036854775808 <= i /\ i <= 9223372036854775807:=⟨hra.1,hra.2.1⟩
 have hr9 : r < 18446744073709551616:=hra.2.2.1
 have hL1 : LaidV W1.heap.size W1:=(hp.laid.below hb1 (Nat.le_refl _)).mono hb1.size
 have hq3 : (p != 3) = true:=by simpa using hp3
 have htg : Hid ((⟨(Ad v p).toArray⟩ : ByteArray) = (⟨#[58]⟩ : ByteArray) ++ Av i ++ ⟨#[13,10]⟩):=Hd (Bi (by
   rw [ByteArray.data_append,ByteArray.data_append,Array.toList_append,Array.toList_append,Bq,hbp,V.old_eq,if_neg (by show ¬ (3 : Int) = 6; decide),if_neg (by show ¬ (3 : Int) = 5; decide),V.wire_eq,if_neg (by show ¬ ((3 : Int) = 1 \/ (3 : Int) = 2 \/ (3 : Int) = 9); decide),if_pos (by show (3 : Int) = 3; decide)]; rfl))
 replace hdn:=Hd hdn
 replace hW1:=Hd hW1
 replace hb1:=Hd hb1
 replace hs1:=Hd hs1
 replace hrA:=Hd hrA
 replace hkA:=Hd hkA
 replace hp:=Hd hp
 replace hfe:=Hd hfe
 replace hok:=Hd hok
 replace hra:=Hd hra
 replace hfu:=Hd hfu
 replace hru:=Hd hru
 replace hbp:=Hd hbp
 replace hdd:=Hd hdd
 replace hL1:=Hd hL1
 go_enter Tryz.func22,Tryz.ntmps22
 go_upto_region 2 with fail
 rw [<- hW1.out]
 go_wp2_with (refine wpList_load_mid rfl 26 _ rfl w.heap.size 0 rfl _ _ hrA.out Tryz.underlying26 rfl Ac ?_)
 refine hdn.out.mono ?_
 rintro e w2 ⟨a,cap,rfl,hrv,hb2⟩
 have hsw:=hs1.out
 have hss2:=hb2.size
 obtain ⟨n,hn⟩ : ∃ n,n = l.length:=⟨_,rfl⟩
 rw [<- hn] at hrv ⊢
 have htA:=Az (n:=6) (Ab hb2 hrA.out) (hkA.out.of_block (hb2.block _ (by omega))) rfl
 obtain ⟨WX,hWX⟩ : ∃ WX,WX = w2.setCells w.heap.size 0 [.int .i64 3,.string t,.int .i64 i,.float .f64 r,.bool f,.slice a n cap]:=⟨_,rfl⟩
 have hfrX : Fr (fun k => k = w.heap.size) w2 WX:=by rw [hWX]; exact Fr.setCells (S:=fun k => k = w.heap.size) (fun _ => rfl) _ _ _ (Fr.refl _ w2)
 have hrX6 : WX.rangeAt w.heap.size 0 [.int .i64 3,.string t,.int .i64 i,.float .f64 r,.bool f,.slice a n cap]:=by rw [hWX]; exact World.rangeAt_setCells_same _ _ _ _ htA
 have c0 : WX.cell? ⟨w.heap.size,0,none⟩ = some (.int .i64 3):=by have:=hrX6 0 _ rfl; simpa using this
 have c1 : WX.cell? ⟨w.heap.size,1,none⟩ = some (.string t):=by have:=hrX6 1 _ rfl; simpa using this
 have c2 : WX.cell? ⟨w.heap.size,2,none⟩ = some (.int .i64 i):=by have:=hrX6 2 _ rfl; simpa using this
 have c3 : WX.cell? ⟨w.heap.size,3,none⟩ = some (.float .f64 r):=by have:=hrX6 3 _ rfl; simpa using this
 have c4 : WX.cell? ⟨w.heap.size,4,none⟩ = some (.bool f):=by have:=hrX6 4 _ rfl; simpa using this
 have c5 : WX.cell? ⟨w.heap.size,5,none⟩ = some (.slice a n cap):=by have:=hrX6 5 _ rfl; simpa using this
 have hvX : RV WX.cell? (Ae 3 t i r f a n cap) (.mk 3 t i r f l):=hrv.mono (fun ad u h => hfrX.cell (A8 h).1 (fun e => by have:=(A8 h).2; omega))
 have hbX : Below w.heap.size w WX:=(hb1.out.trans (hb2.mono hb1.out.size)).trans (hfrX.below (by omega) (fun j hj e => by omega))
 have hLX : LaidV WX.heap.size WX:=by
   have h1:=hp.out.laid.below hbX (Nat.le_refl _);exact h1.mono hbX.size
 have hpX : Par WX:=hpar.out.below hbX
 have hrX : Rng WX:=hrng.out.below hbX
 have hsX : w.heap.size < WX.heap.size:=by have:=hfrX.size; omega
 replace htA:=Hd htA
 replace hWX:=Hd hWX
 replace hvX:=Hd hvX
 replace hbX:=Hd hbX
 replace hLX:=Hd hLX
 replace hpX:=Hd hpX
 replace hrX:=Hd hrX
 clear hrv hb2 hfrX hrX6 hsw hss2
 have hl0 : l = []:=hok.out.list (by have hkk : (V.mk 3 t i r f l).kind = 3:=rfl; rw [hkk]; decide)
 have hn0 : n = 0:=by rw [hn,hl0]; rfl
 clear hl0
 subst hn0
 replace hn:=Hd hn
 go_wp2_with (first | (refine wpList_store_mid rfl 26 _ _ rfl w.heap.size 0 _ rfl rfl htA.out Ac (one6 _ _ _ _ _ _ _ _) ?_; rw [<- hWX.out]))
 go_loopw [5,19] (fun s i wr => s = .string ⟨#[]⟩ /\ i = .int .i64 0 /\ wr = WX) (fun _ _ _ => 0)
 case atStart => exact ⟨rfl,rfl,rfl⟩
 case round =>
   obtain ⟨rfl,rfl,hww⟩:=hrel;obtain rfl:=hww.symm;clear hww;have hT:=D9 i hi9.1 hi9.2;have hIz : (Av i).size <= 21:=Bf i hi9.1 hi9.2;generalize Av i = T at *;have l1 : ¬ 9223372036854775807 < 1 + T.size:=by omega
   have l2 : ¬ 9223372036854775807 < 1 + T.size + 2:=by omega
   replace hT:=Hd hT;go_wp2_with fail
   refine (hT.out _).mono ?_;rintro e w1 ⟨rfl,hbb⟩;replace hbb:=Hd hbb;go_wp2;go_ret;exact ⟨by rw [htg.out]; rfl,hbX.out.trans (hbb.out.mono hbX.out.size)⟩
set_option maxRecDepth 100000 in
set_option maxHeartbeats 6400000 in
theorem rb2_4 {v : V} {p : Int} (hp3 : p ≠ 3) (hk2 : v.down.kind = 4) {k0 : Int} {t0 : ByteArray} {i0 : Int} {r0 : Nat} {f0 : Bool} {a0 : Option Addr} {n0 cap0 : Nat} {d : Int} {w : World} (hp : RDownH v k0 t0 i0 r0 f0 a0 n0 cap0 d w) :
   Calls Tryz.prog 22 #[.agg #[.int .i64 k0,.string t0,.int .i64 i0,.float .f64 r0,.bool f0,.slice a0 n0 cap0],.int .i64 p] w fun e w' => e = .returned (.string ⟨(Ad v p).toArray⟩) /\ Below w.heap.size w w':=by
 have hpar:=Hd hp.par
 have hrng:=Hd hp.rng
 replace hp:=hp.d
 have hokd:=Dm v d hp.fine hp.ranged
 obtain ⟨W1,hW1⟩ : ∃ W1,W1 = w.alloc (.cells #[.int .i64 k0,.string t0,.int .i64 i0,.float .f64 r0,.bool f0,.slice a0 n0 cap0] 26):=⟨_,rfl⟩
 have hb1 : Below w.heap.size w W1:=by rw [hW1]; exact (Below.refl _ _).alloc (Nat.le_refl _) _
 have hs1 : W1.heap.size = w.heap.size + 1:=by rw [hW1]; simp
 have hrA : W1.rangeAt w.heap.size 0 [.int .i64 k0,.string t0,.int .i64 i0,.float .f64 r0,.bool f0,.slice a0 n0 cap0]:=by rw [hW1]; intro q u hq; rw [Nat.zero_add,World.cell?_alloc_new]; simpa using hq
 have hkA : Blk W1 w.heap.size:=by rw [hW1]; exact Blk.new _ _ _
 have hdn:=R2.rdown_any v k0 t0 i0 r0 f0 a0 n0 cap0 d W1 ⟨⟨hp.val.mono (Aa hb1),hp.fine,hp.ranged,hp.count,(hp.laid.below hb1 (Nat.le_refl _)).mono hb1.size⟩,hpar.out.below hb1,hrng.out.below hb1⟩
 unfold Ci at hdn
 have hbp : Ad v p = v.down.old:=if_neg hp3
 have hdd:=V.down_down v
 have hcu : v.down.count <= 100000:=by rw [hokd.count]; exact hp.count
 have hfu:=hokd.fine
 have hru:=hokd.ranged
 clear hokd
 generalize v.down = u at *
 obtain ⟨kk,t,i,r,f,l⟩:=u
 dsimp only [V.kind,V.text,V.int,V.real,V.flag,V.list] at *
 subst hk2
 have hfe:=hfu
 rw [V.fine_eq,Bool.and_eq_true,Bool.and_eq_true] at hfe
 have hok:=Ak hfe.1.1
 have hra:=(V.ranged_eq _).1 hru
 have htz : t.size <= 4096:=hok.size
 have hi9 : -9223372036854775808 <= i /\ i <= 9223372036854775807:=⟨hra.1,hra.2.1⟩
 have hr9 : r < 18446744073709551616:=hra.2.2.1
 have hL1 : LaidV W1.heap.size W1:=(hp.laid.below hb1 (Nat.le_refl _)).mono hb1.size
 have hq3 : (p != 3) = true:=by simpa using hp3
 have htg : Hid ((⟨(Ad v p).toArray⟩ : ByteArray) = (⟨#[36]⟩ : ByteArray) ++ (Av t.size ++ (⟨#[13,10]⟩ : ByteArray)) ++ t ++ ⟨#[13,10]⟩):=Hd (Bi (by
   simp only [ByteArray.data_append,Array.toList_append,Bq];rw [hbp,V.old_eq,if_neg (by show ¬ (4 : Int) = 6; decide),if_neg (by show ¬ (4 : Int) = 5; decide),V.wire_eq,if_neg (by show ¬ ((4 : Int) = 1 \/ (4 : Int) = 2 \/ (4 : Int) = 9); decide),if_neg (by show ¬ (4 : Int) = 3; decide),if_neg (by show ¬ (4 : Int) = 7; decide),if_neg (by show ¬ (4 : Int) = 8; decide),if_neg (by show ¬ (4 : Int) = 6; decide),if_pos (by show (4 : Int) = 4 \/ (4 : Int) = 10 \/ (4 : Int) = 11; decide),longL,numL,B8,Aq t];simp [Ck,V.kind,V.text]))
 replace hdn:=Hd hdn
 replace hW1:=Hd hW1
 replace hb1:=Hd hb1
 replace hs1:=Hd hs1
 replace hrA:=Hd hrA
 replace hkA:=Hd hkA
 replace hp:=Hd hp
 replace hfe:=Hd hfe
 replace hok:=Hd hok
 replace hra:=Hd hra
 replace hfu:=Hd hfu
 replace hru:=Hd hru
 replace hbp:=Hd hbp
 replace hdd:=Hd hdd
 replace hL1:=Hd hL1
 go_enter Tryz.func22,Tryz.ntmps22
 go_upto_region 2 with fail
 rw [<- hW1.out]
 go_wp2_with (refine wpList_load_mid rfl 26 _ rfl w.heap.size 0 rfl _ _ hrA.out Tryz.underlying26 rfl Ac ?_)
 refine hdn.out.mono ?_
 rintro e w2 ⟨a,cap,rfl,hrv,hb2⟩
 have hsw:=hs1.out
 have hss2:=hb2.size
 obtain ⟨n,hn⟩ : ∃ n,n = l.length:=⟨_,rfl⟩
 rw [<- hn] at hrv ⊢
 have htA:=Az (n:=6) (Ab hb2 hrA.out) (hkA.out.of_block (hb2.block _ (by omega))) rfl
 obtain ⟨WX,hWX⟩ : ∃ WX,WX = w2.setCells w.heap.size 0 [.int .i64 4,.string t,.int .i64 i,.float .f64 r,.bool f,.slice a n cap]:=⟨_,rfl⟩
 have hfrX : Fr (fun k => k = w.heap.size) w2 WX:=by rw [hWX]; exact Fr.setCells (S:=fun k => k = w.heap.size) (fun _ => rfl) _ _ _ (Fr.refl _ w2)
 have hrX6 : WX.rangeAt w.heap.size 0 [.int .i64 4,.string t,.int .i64 i,.float .f64 r,.bool f,.slice a n cap]:=by rw [hWX]; exact World.rangeAt_setCells_same _ _ _ _ htA
 have c0 : WX.cell? ⟨w.heap.size,0,none⟩ = some (.int .i64 4):=by have:=hrX6 0 _ rfl; simpa using this
 have c1 : WX.cell? ⟨w.heap.size,1,none⟩ = some (.string t):=by have:=hrX6 1 _ rfl; simpa using this
 have c2 : WX.cell? ⟨w.heap.size,2,none⟩ = some (.int .i64 i):=by have:=hrX6 2 _ rfl; simpa using this
 have c3 : WX.cell? ⟨w.heap.size,3,none⟩ = some (.float .f64 r):=by have:=hrX6 3 _ rfl; simpa using this
 have c4 : WX.cell? ⟨w.heap.size,4,none⟩ = some (.bool f):=by have:=hrX6 4 _ rfl; simpa using this
 have c5 : WX.cell? ⟨w.heap.size,5,none⟩ = some (.slice a n cap):=by have:=hrX6 5 _ rfl; simpa using this
 have hvX : RV WX.cell? (Ae 4 t i r f a n cap) (.mk 4 t i r f l):=hrv.mono (fun ad u h => hfrX.cell (A8 h).1 (fun e => by have:=(A8 h).2; omega))
 have hbX : Below w.heap.size w WX:=(hb1.out.trans (hb2.mono hb1.out.size)).trans (hfrX.below (by omega) (fun j hj e => by omega))
 have hLX : LaidV WX.heap.size WX:=by
   have h1:=hp.out.laid.below hbX (Nat.le_refl _);exact h1.mono hbX.size
 have hpX : Par WX:=hpar.out.below hbX
 have hrX : Rng WX:=hrng.out.below hbX
 have hsX : w.heap.size < WX.heap.size:=by have:=hfrX.size; omega
 replace htA:=Hd htA
 replace hWX:=Hd hWX
 replace hvX:=Hd hvX
 replace hbX:=Hd hbX
 replace hLX:=Hd hLX
 replace hpX:=Hd hpX
 replace hrX:=Hd hrX
 clear hrv hb2 hfrX hrX6 hsw hss2
 have hl0 : l = []:=hok.out.list (by have hkk : (V.mk 4 t i r f l).kind = 4:=rfl; rw [hkk]; decide)
 have hn0 : n = 0:=by rw [hn,hl0]; rfl
 clear hl0
 subst hn0
 replace hn:=Hd hn
 go_wp2_with (first | (refine wpList_store_mid rfl 26 _ _ rfl w.heap.size 0 _ rfl rfl htA.out Ac (one6 _ _ _ _ _ _ _ _) ?_; rw [<- hWX.out]))
 go_loopw [5,19] (fun s i wr => s = .string ⟨#[]⟩ /\ i = .int .i64 0 /\ wr = WX) (fun _ _ _ => 0)
 case atStart => exact ⟨rfl,rfl,rfl⟩
 case round =>
   obtain ⟨rfl,rfl,hww⟩:=hrel;obtain rfl:=hww.symm;clear hww;have hT:=Cf t.size (by omega);have hIz : (Av t.size).size <= 21:=Bf t.size (by omega) (by omega);have e2 : (⟨#[13,10]⟩ : ByteArray).size = 2:=rfl;have hTz : (Av t.size ++ (⟨#[13,10]⟩ : ByteArray)).size <= 23:=by rw [ByteArray.size_append]; omega
   generalize Av t.size ++ (⟨#[13,10]⟩ : ByteArray) = T at *;have l1 : ¬ 9223372036854775807 < 1 + T.size:=by omega
   have l2 : ¬ 9223372036854775807 < 1 + T.size + t.size:=by omega
   have l3 : ¬ 9223372036854775807 < 1 + T.size + t.size + 2:=by omega
   replace hT:=Hd hT;clear e2 hIz;go_upto_region 20 with fail
   refine Ah (by kernel_rfl) (by kernel_rfl) ?_;repeat (go_big_quiet_step ((go_at_call 43; (with_reducible exact Ay (hT.out _)))))
   refine wpQuiet_nil ?_;rintro _ ⟨xq,rfl⟩;have hS:=Ap WX xq;go_wp2_with fail
   go_ret;exact ⟨by rw [htg.out]; rfl,hbX.out.trans (hS.mono hbX.out.size)⟩
set_option maxRecDepth 100000 in
set_option maxHeartbeats 6400000 in
theorem rb2_6 {v : V} {p : Int} (hp3 : p ≠ 3) (hk2 : v.down.kind = 6) {k0 : Int} {t0 : ByteArray} {i0 : Int} {r0 : Nat} {f0 : Bool} {a0 : Option Addr} {n0 cap0 : Nat} {d : Int} {w : World} (hp : RDownH v k0 t0 i0 r0 f0 a0 n0 cap0 d w) :
   Calls Tryz.prog 22 #[.agg #[.int .i64 k0,.string t0,.int .i64 i0,.float .f64 r0,.bool f0,.slice a0 n0 cap0],.int .i64 p] w fun e w' => e = .returned (.string ⟨(Ad v p).toArray⟩) /\ Below w.heap.size w w':=by
 have hpar:=Hd hp.par
 have hrng:=Hd hp.rng
 replace hp:=hp.d
 have hokd:=Dm v d hp.fine hp.ranged
 obtain ⟨W1,hW1⟩ : ∃ W1,W1 = w.alloc (.cells #[.int .i64 k0,.string t0,.int .i64 i0,.float .f64 r0,.bool f0,.slice a0 n0 cap0] 26):=⟨_,rfl⟩
 have hb1 : Below w.heap.size w W1:=by rw [hW1]; exact (Below.refl _ _).alloc (Nat.le_refl _) _
 have hs1 : W1.heap.size = w.heap.size + 1:=by rw [hW1]; simp
 have hrA : W1.rangeAt w.heap.size 0 [.int .i64 k0,.string t0,.int .i64 i0,.float .f64 r0,.bool f0,.slice a0 n0 cap0]:=by rw [hW1]; intro q u hq; rw [Nat.zero_add,World.cell?_alloc_new]; simpa using hq
 have hkA : Blk W1 w.heap.size:=by rw [hW1]; exact Blk.new _ _ _
 have hdn:=R2.rdown_any v k0 t0 i0 r0 f0 a0 n0 cap0 d W1 ⟨⟨hp.val.mono (Aa hb1),hp.fine,hp.ranged,hp.count,(hp.laid.below hb1 (Nat.le_refl _)).mono hb1.size⟩,hpar.out.below hb1,hrng.out.below hb1⟩
 unfold Ci at hdn
 have hbp : Ad v p = v.down.old:=if_neg hp3
 have hdd:=V.down_down v
 have hcu : v.down.count <= 100000:=by rw [hokd.count]; exact hp.count
 have hfu:=hokd.fine
 have hru:=hokd.ranged
 clear hokd
 generalize v.down = u at *
 obtain ⟨kk,t,i,r,f,l⟩:=u
 dsimp only [V.kind,V.text,V.int,V.real,V.flag,V.list] at *
 subst hk2
 have hfe:=hfu
 rw [V.fine_eq,Bool.and_eq_true,Bool.and_eq_true] at hfe
 have hok:=Ak hfe.1.1
 have hra:=(V.ranged_eq _).1 hru
 have htz : t.size <= 4096:=hok.size
 have hi9 : -9223372036854775808 <= i /\ i <= 9223372036854775807:=⟨hra.1,hra.2.1⟩
 have hr9 : r < 18446744073709551616:=hra.2.2.1
 have hL1 : LaidV W1.heap.size W1:=(hp.laid.below hb1 (Nat.le_refl _)).mono hb1.size
 have hq3 : (p != 3) = true:=by simpa using hp3
 have htg : Hid ((⟨(Ad v p).toArray⟩ : ByteArray) = (⟨#[36,45,49,13,10]⟩ : ByteArray)):=Hd (Bi (by
   rw [hbp,V.old_eq,if_pos (by show (6 : Int) = 6; decide)]))
 replace hdn:=Hd hdn
 replace hW1:=Hd hW1
 replace hb1:=Hd hb1
 replace hs1:=Hd hs1
 replace hrA:=Hd hrA
 replace hkA:=Hd hkA
 replace hp:=Hd hp
 replace hfe:=Hd hfe
 replace hok:=Hd hok
 replace hra:=Hd hra
 replace hfu:=Hd hfu
 replace hru:=Hd hru
 replace hbp:=Hd hbp
 replace hdd:=Hd hdd
 replace hL1:=Hd hL1
 go_enter Tryz.func22,Tryz.ntmps22
 go_upto_region 2 with fail
 rw [<- hW1.out]
 go_wp2_with (refine wpList_load_mid rfl 26 _ rfl w.heap.size 0 rfl _ _ hrA.out Tryz.underlying26 rfl Ac ?_)
 refine hdn.out.mono ?_
 rintro e w2 ⟨a,cap,rfl,hrv,hb2⟩
 have hsw:=hs1.out
 have hss2:=hb2.size
 obtain ⟨n,hn⟩ : ∃ n,n = l.length:=⟨_,rfl⟩
 rw [<- hn] at hrv ⊢
 have htA:=Az (n:=6) (Ab hb2 hrA.out) (hkA.out.of_block (hb2.block _ (by omega))) rfl
 obtain ⟨WX,hWX⟩ : ∃ WX,WX = w2.setCells w.heap.size 0 [.int .i64 6,.string t,.int .i64 i,.float .f64 r,.bool f,.slice a n cap]:=⟨_,rfl⟩
 have hfrX : Fr (fun k => k = w.heap.size) w2 WX:=by rw [hWX]; exact Fr.setCells (S:=fun k => k = w.heap.size) (fun _ => rfl) _ _ _ (Fr.refl _ w2)
 have hrX6 : WX.rangeAt w.heap.size 0 [.int .i64 6,.string t,.int .i64 i,.float .f64 r,.bool f,.slice a n cap]:=by rw [hWX]; exact World.rangeAt_setCells_same _ _ _ _ htA
 have c0 : WX.cell? ⟨w.heap.size,0,none⟩ = some (.int .i64 6):=by have:=hrX6 0 _ rfl; simpa using this
 have c1 : WX.cell? ⟨w.heap.size,1,none⟩ = some (.string t):=by have:=hrX6 1 _ rfl; simpa using this
 have c2 : WX.cell? ⟨w.heap.size,2,none⟩ = some (.int .i64 i):=by have:=hrX6 2 _ rfl; simpa using this
 have c3 : WX.cell? ⟨w.heap.size,3,none⟩ = some (.float .f64 r):=by have:=hrX6 3 _ rfl; simpa using this
 have c4 : WX.cell? ⟨w.heap.size,4,none⟩ = some (.bool f):=by have:=hrX6 4 _ rfl; simpa using this
 have c5 : WX.cell? ⟨w.heap.size,5,none⟩ = some (.slice a n cap):=by have:=hrX6 5 _ rfl; simpa using this
 have hvX : RV WX.cell? (Ae 6 t i r f a n cap) (.mk 6 t i r f l):=hrv.mono (fun ad u h => hfrX.cell (A8 h).1 (fun e => by have:=(A8 h).2; omega))
 have hbX : Below w.heap.size w WX:=(hb1.out.trans (hb2.mono hb1.out.size)).trans (hfrX.below (by omega) (fun j hj e => by omega))
 have hLX : LaidV WX.heap.size WX:=by
   have h1:=hp.out.laid.below hbX (Nat.le_refl _);exact h1.mono hbX.size
 have hpX : Par WX:=hpar.out.below hbX
 have hrX : Rng WX:=hrng.out.below hbX
 have hsX : w.heap.size < WX.heap.size:=by have:=hfrX.size; omega
 replace htA:=Hd htA
 replace hWX:=Hd hWX
 replace hvX:=Hd hvX
 replace hbX:=Hd hbX
 replace hLX:=Hd hLX
 replace hpX:=Hd hpX
 replace hrX:=Hd hrX
 clear hrv hb2 hfrX hrX6 hsw hss2
 have hl0 : l = []:=hok.out.list (by have hkk : (V.mk 6 t i r f l).kind = 6:=rfl; rw [hkk]; decide)
 have hn0 : n = 0:=by rw [hn,hl0]; rfl
 clear hl0
 subst hn0
 replace hn:=Hd hn
 go_wp2_with (first | (refine wpList_store_mid rfl 26 _ _ rfl w.heap.size 0 _ rfl rfl htA.out Ac (one6 _ _ _ _ _ _ _ _) ?_; rw [<- hWX.out]))
 go_ret
 exact ⟨by rw [htg.out]; rfl,hbX.out⟩
set_option maxRecDepth 100000 in
set_option maxHeartbeats 6400000 in
theorem rb2_5 {v : V} {p : Int} (ih : ∀ x ∈ v.down.list,Ds p x) (hp3 : p ≠ 3) (hk2 : v.down.kind = 5) {k0 : Int} {t0 : ByteArray} {i0 : Int} {r0 : Nat} {f0 : Bool} {a0 : Option Addr} {n0 cap0 : Nat} {d : Int} {w : World} (hp : RDownH v k0 t0 i0 r0 f0 a0 n0 cap0 d w) :
   Calls Tryz.prog 22 #[.agg #[.int .i64 k0,.string t0,.int .i64 i0,.float .f64 r0,.bool f0,.slice a0 n0 cap0],.int .i64 p] w fun e w' => e = .returned (.string ⟨(Ad v p).toArray⟩) /\ Below w.heap.size w w':=by
 have hpar:=Hd hp.par
 have hrng:=Hd hp.rng
 replace hp:=hp.d
 have hokd:=Dm v d hp.fine hp.ranged
 obtain ⟨W1,hW1⟩ : ∃ W1,W1 = w.alloc (.cells #[.int .i64 k0,.string t0,.int .i64 i0,.float .f64 r0,.bool f0,.slice a0 n0 cap0] 26):=⟨_,rfl⟩
 have hb1 : Below w.heap.size w W1:=by rw [hW1]; exact (Below.refl _ _).alloc (Nat.le_refl _) _
 have hs1 : W1.heap.size = w.heap.size + 1:=by rw [hW1]; simp
 have hrA : W1.rangeAt w.heap.size 0 [.int .i64 k0,.string t0,.int .i64 i0,.float .f64 r0,.bool f0,.slice a0 n0 cap0]:=by rw [hW1]; intro q u hq; rw [Nat.zero_add,World.cell?_alloc_new]; simpa using hq
 have hkA : Blk W1 w.heap.size:=by rw [hW1]; exact Blk.new _ _ _
 have hdn:=R2.rdown_any v k0 t0 i0 r0 f0 a0 n0 cap0 d W1 ⟨⟨hp.val.mono (Aa hb1),hp.fine,hp.ranged,hp.count,(hp.laid.below hb1 (Nat.le_refl _)).mono hb1.size⟩,hpar.out.below hb1,hrng.out.below hb1⟩
 unfold Ci at hdn
 have hbp : Ad v p = v.down.old:=if_neg hp3
 have hdd:=V.down_down v
 have hcu : v.down.count <= 100000:=by rw [hokd.count]; exact hp.count
 have hfu:=hokd.fine
 have hru:=hokd.ranged
 clear hokd
 generalize v.down = u at *
 obtain ⟨kk,t,i,r,f,l⟩:=u
 dsimp only [V.kind,V.text,V.int,V.real,V.flag,V.list] at *
 subst hk2
 have hfe:=hfu
 rw [V.fine_eq,Bool.and_eq_true,Bool.and_eq_true] at hfe
 have hok:=Ak hfe.1.1
 have hra:=(V.ranged_eq _).1 hru
 have htz : t.size <= 4096:=hok.size
 have hi9 : -9223372036854775808 <= i /\ i <= 9223372036854775807:=⟨hra.1,hra.2.1⟩
 have hr9 : r < 18446744073709551616:=hra.2.2.1
 have hL1 : LaidV W1.heap.size W1:=(hp.laid.below hb1 (Nat.le_refl _)).mono hb1.size
 have hq3 : (p != 3) = true:=by simpa using hp3
 have hdl : ∀ x ∈ l,x.down = x:=by
   have h1:=hdd;rw [V.down_eq] at h1;replace h1 : V.mk 5 ⟨#[]⟩ 0 0 false (l.map V.down) = V.mk 5 t i r f l:=h1;have h2 : l.map V.down = l:=by injection h1
   intro x hx;have h3 : l.map V.down = l.map id:=by rw [h2,List.map_id]
   exact List.map_inj_left.1 h3 x hx
 replace ih:=Hd ih
 have hcn : V.countL l <= 100000:=by have:=V.count_eq (.mk 5 t i r f l); dsimp only [V.list] at this; omega
 have hll:=V.length_le l
 have htg : Hid ((⟨(Ad v p).toArray⟩ : ByteArray) = (⟨#[42]⟩ : ByteArray) ++ (Av ((l.length : Nat) : Int) ++ (⟨#[13,10]⟩ : ByteArray)) ++ ⟨(A0 p l).toArray⟩):=Hd (Bi (by
   rw [hbp,V.old_eq,if_neg (by show ¬ (5 : Int) = 6; decide),if_pos (by show (5 : Int) = 5; decide),partsL_old hp3 hdl];simp only [ByteArray.data_append,Array.toList_append,Bq,numL,B8];simp [V.list]))
 have hfine : Hid (V.fineL l (d - 1) = true):=Hd hfe.2
 have hrl : Hid (V.rangedL l):=Hd hra.2.2.2
 have hcnt : Hid (V.countL l <= 100000):=Hd hcn
 have hln9 : l.length <= 100000:=by omega
 clear hdl hcn hll
 replace hdn:=Hd hdn
 replace hW1:=Hd hW1
 replace hb1:=Hd hb1
 replace hs1:=Hd hs1
 replace hrA:=Hd hrA
 replace hkA:=Hd hkA
 replace hp:=Hd hp
 replace hfe:=Hd hfe
 replace hok:=Hd hok
 replace hra:=Hd hra
 replace hfu:=Hd hfu
 replace hru:=Hd hru
 replace hbp:=Hd hbp
 replace hdd:=Hd hdd
 replace hL1:=Hd hL1
 go_enter Tryz.func22,Tryz.ntmps22
 go_upto_region 2 with fail
 rw [<- hW1.out]
 go_wp2_with (refine wpList_load_mid rfl 26 _ rfl w.heap.size 0 rfl _ _ hrA.out Tryz.underlying26 rfl Ac ?_)
 refine hdn.out.mono ?_
 rintro e w2 ⟨a,cap,rfl,hrv,hb2⟩
 have hsw:=hs1.out
 have hss2:=hb2.size
 obtain ⟨n,hn⟩ : ∃ n,n = l.length:=⟨_,rfl⟩
 rw [<- hn] at hrv ⊢
 have htA:=Az (n:=6) (Ab hb2 hrA.out) (hkA.out.of_block (hb2.block _ (by omega))) rfl
 obtain ⟨WX,hWX⟩ : ∃ WX,WX = w2.setCells w.heap.size 0 [.int .i64 5,.string t,.int .i64 i,.float .f64 r,.bool f,.slice a n cap]:=⟨_,rfl⟩
 have hfrX : Fr (fun k => k = w.heap.size) w2 WX:=by rw [hWX]; exact Fr.setCells (S:=fun k => k = w.heap.size) (fun _ => rfl) _ _ _ (Fr.refl _ w2)
 have hrX6 : WX.rangeAt w.heap.size 0 [.int .i64 5,.string t,.int .i64 i,.float .f64 r,.bool f,.slice a n cap]:=by rw [hWX]; exact World.rangeAt_setCells_same _ _ _ _ htA
 have c0 : WX.cell? ⟨w.heap.size,0,none⟩ = some (.int .i64 5):=by have:=hrX6 0 _ rfl; simpa using this
 have c1 : WX.cell? ⟨w.heap.size,1,none⟩ = some (.string t):=by have:=hrX6 1 _ rfl; simpa using this
 have c2 : WX.cell? ⟨w.heap.size,2,none⟩ = some (.int .i64 i):=by have:=hrX6 2 _ rfl; simpa using this
 have c3 : WX.cell? ⟨w.heap.size,3,none⟩ = some (.float .f64 r):=by have:=hrX6 3 _ rfl; simpa using this
 have c4 : WX.cell? ⟨w.heap.size,4,none⟩ = some (.bool f):=by have:=hrX6 4 _ rfl; simpa using this
 have c5 : WX.cell? ⟨w.heap.size,5,none⟩ = some (.slice a n cap):=by have:=hrX6 5 _ rfl; simpa using this
 have hvX : RV WX.cell? (Ae 5 t i r f a n cap) (.mk 5 t i r f l):=hrv.mono (fun ad u h => hfrX.cell (A8 h).1 (fun e => by have:=(A8 h).2; omega))
 have hbX : Below w.heap.size w WX:=(hb1.out.trans (hb2.mono hb1.out.size)).trans (hfrX.below (by omega) (fun j hj e => by omega))
 have hLX : LaidV WX.heap.size WX:=by
   have h1:=hp.out.laid.below hbX (Nat.le_refl _);exact h1.mono hbX.size
 have hpX : Par WX:=hpar.out.below hbX
 have hrX : Rng WX:=hrng.out.below hbX
 have hsX : w.heap.size < WX.heap.size:=by have:=hfrX.size; omega
 replace htA:=Hd htA
 replace hWX:=Hd hWX
 replace hvX:=Hd hvX
 replace hbX:=Hd hbX
 replace hLX:=Hd hLX
 replace hpX:=Hd hpX
 replace hrX:=Hd hrX
 clear hrv hb2 hfrX hrX6 hsw hss2
 have hn9 : n <= 100000:=by omega
 have hnl : Hid (n = l.length):=Hd hn
 rw [<- hn] at htg
 have hvL : Hid (RV WX.cell? (Ae (V.mk 5 t i r f l).kind (V.mk 5 t i r f l).text (V.mk 5 t i r f l).int (V.mk 5 t i r f l).real (V.mk 5 t i r f l).flag a n cap) (V.mk 5 t i r f l)):=hvX
 replace hn:=Hd hn
 go_wp2_with (first | (refine wpList_store_mid rfl 26 _ _ rfl w.heap.size 0 _ rfl rfl htA.out Ac (one6 _ _ _ _ _ _ _ _) ?_; rw [<- hWX.out]))
 have hcs:=hcnt
 go_loopw [5,19] (fun s i wr => ∃ j : Nat,j <= n /\ i = .int .i64 j /\ s = .string ⟨(A0 p (l.take j)).toArray⟩ /\ Below WX.heap.size WX wr) (fun _ i _ => n - (intOf i).toNat)
 case atStart => exact ⟨0,Nat.zero_le _,rfl,rfl,Below.refl _ _⟩
 case round =>
   obtain ⟨j,hj,rfl,rfl,hb2⟩:=hrel;have hpl:=Dh (p:=p) (l:=l.take j) (d:=d - 1) (fun x hx => A4 hfine.out x (List.mem_of_mem_take hx)) (fun x hx => V.rangedL_mem hrl.out x (List.mem_of_mem_take hx)) (Nat.le_trans (V.countL_take _ _) hcnt.out);have hplc:=V.countL_take l j;have hcc:=hcnt.out;have up : ∀ ad u,WX.cell? ad = some u -> wr.cell? ad = some u:=Aa hb2;by_cases hlt : j < n
   · have hlti : (j : Int) < (n : Int):=by omega
     obtain ⟨x,bb,o,ax,cx,hxj,hmem,rfl,hx,d0,d1,d2,d3,d4,d5⟩:=(hvL.out.mono up).elem' hlt;replace hxj : (l)[j]? = some x:=hxj;replace hmem : x ∈ l:=hmem;have hts : l.take (j + 1) = l.take j ++ [x]:=by
       obtain ⟨h1,h2⟩:=List.getElem?_eq_some_iff.1 hxj;rw [List.take_succ_eq_append_getElem h1,h2]
     have hbx:=Co (p:=p) (A4 hfine.out x hmem) (V.rangedL_mem hrl.out x hmem) (Nat.le_trans (V.count_mem hmem) hcc);have hxc:=V.count_mem hmem;obtain ⟨U,hU⟩ : ∃ U : ByteArray,U = ⟨(Ad x p).toArray⟩:=⟨_,rfl⟩;obtain ⟨S,hS⟩ : ∃ S : ByteArray,S = ⟨(A0 p (l.take j)).toArray⟩:=⟨_,rfl⟩;have hUz : U.size <= 500000000:=by rw [hU,Aq]; show (Ad x p).toArray.toList.length <= _; simp; omega
     have hSz : S.size <= 500000000:=by rw [hS,Aq]; show (A0 p (l.take j)).toArray.toList.length <= _; simp; omega
     have hz1 : ¬ 9223372036854775807 < S.size + U.size:=by omega
     have hnext : S ++ U = ⟨(A0 p (l.take (j + 1))).toArray⟩:=by
       refine D5 ?_;rw [hts,Dp,ByteArray.data_append,Array.toList_append,hS,hU]
     rw [<- hS];obtain ⟨W4,hW4⟩ : ∃ W4,W4 = wr.alloc (.cells #[.int .i64 x.kind,.string x.text,.int .i64 x.int,.float .f64 x.real,.bool x.flag,.slice ax x.list.length cx] 26):=⟨_,rfl⟩;have hb4 : Below wr.heap.size wr W4:=by rw [hW4]; exact (Below.refl _ _).alloc (Nat.le_refl _) _
     have hb24 : Below WX.heap.size WX W4:=hb2.trans (hb4.mono hb2.size);have hB:=ih.out x hmem x.kind x.text x.int x.real x.flag ax x.list.length cx (d - 1) W4 ⟨⟨hx.mono (Aa hb4),A4 hfine.out x hmem,V.rangedL_mem hrl.out x hmem,Nat.le_trans hxc hcc,(hLX.out.below hb24 (Nat.le_refl _)).mono hb24.size⟩,hpX.out.below hb24,hrX.out.below hb24⟩;rw [hW4,<- hU] at hB;replace hB:=Hd hB;replace hW4:=Hd hW4;replace hts:=Hd hts;replace hnext:=Hd hnext;replace hU:=Hd hU;replace hS:=Hd hS;replace hb24:=Hd hb24;have e0:=up _ _ c0;have e5:=up _ _ c5;clear hx hxj hbx hpl hplc hb4 up;replace hb2:=Hd hb2;go_wp2_with fail
     refine hB.out.mono ?_;rintro e w3 ⟨rfl,hb3⟩;rw [<- hW4.out] at hb3;have hb5:=hb24.out.trans (hb3.mono hb24.out.size);clear hb3 d0 d1 d2 d3 d4 d5 e0 e5;replace hb5:=Hd hb5;go_wp2_with fail
     go_roundw
     case rel => exact ⟨j + 1,by omega,by go_num,by rw [hnext.out],hb5.out⟩
     case measure => simp [intOf]; omega
   · have hlti : ¬ (j : Int) < (n : Int):=by omega
     have hjn : l.take j = l:=List.take_of_length_le (by have:=hnl.out; omega);rw [hjn] at hpl ⊢;obtain ⟨S,hS⟩ : ∃ S : ByteArray,S = ⟨(A0 p l).toArray⟩:=⟨_,rfl⟩;have hSz : S.size <= 500000000:=by rw [hS,Aq]; show (A0 p l).toArray.toList.length <= _; simp; omega
     have htg2:=htg.out;rw [<- hS] at htg2;rw [<- hS];have hT:=Cf (n) (by omega);have hIz : (Av ((n : Nat) : Int)).size <= 21:=Bf _ (by omega) (by omega);have e2 : (⟨#[13,10]⟩ : ByteArray).size = 2:=rfl;have hTz : (Av ((n : Nat) : Int) ++ (⟨#[13,10]⟩ : ByteArray)).size <= 23:=by rw [ByteArray.size_append]; omega
     obtain ⟨T,hTe⟩ : ∃ T,T = Av ((n : Nat) : Int) ++ (⟨#[13,10]⟩ : ByteArray):=⟨_,rfl⟩;rw [<- hTe] at hT hTz htg2;have l1 : ¬ 9223372036854775807 < 1 + T.size:=by omega
     have l2 : ¬ 9223372036854775807 < 1 + T.size + S.size:=by omega
     have e0:=up _ _ c0;have e5:=up _ _ c5;have hdv : ((n : Nat) : Int).tdiv 2 = ((n / 2 : Nat) : Int):=by rw [Int.tdiv_eq_ediv_of_nonneg (by omega)]; rfl
     replace hT:=Hd hT;replace hTe:=Hd hTe;replace hS:=Hd hS;have htg2':=Hd htg2;clear hpl hplc up hIz e2 htg2;replace hb2:=Hd hb2;go_wp2_with fail
     refine (hT.out _).mono ?_;rintro e w3 ⟨rfl,hb3⟩;have hb5:=(hbX.out.trans (hb2.out.mono hbX.out.size)).trans (hb3.mono (by have:=hbX.out.size; have:=hb2.out.size; omega));clear hb3 e0 e5;replace hb5:=Hd hb5;go_wp2_with fail
     go_ret;exact ⟨by rw [htg2'.out]; rfl,hb5.out⟩
theorem rb2_two {p : Int} (hp3 : p ≠ 3) (v : V) : Ds p v /\ Ds p v.down:=by
 have key : ∀ v : V,(∀ x ∈ v.down.list,Ds p x) -> Ds p v:=by
   intro v ih k t i r f a n cap d w hp;have hk:=(Dm v d hp.d.fine hp.d.ranged).kind;rcases (by omega : v.down.kind = 1 \/ v.down.kind = 2 \/ v.down.kind = 3 \/ v.down.kind = 4 \/ v.down.kind = 5 \/ v.down.kind = 6) with h | h | h | h | h | h
   · exact rb2_1 hp3 h hp
   · exact rb2_2 hp3 h hp
   · exact rb2_3 hp3 h hp
   · exact rb2_4 hp3 h hp
   · exact rb2_5 ih hp3 h hp
   · exact rb2_6 hp3 h hp
 induction v using V.ind with
 | h v ih =>
   have hl : ∀ x ∈ v.down.list,Ds p x:=by
     intro x hx;rw [V.down_eq] at hx;split at hx
     · cases hx
     split at hx
     · cases hx
     split at hx
     · cases hx
     split at hx
     · cases hx
     split at hx
     · cases hx
     split at hx
     · obtain ⟨y,hy,rfl⟩:=List.mem_map.1 (show x ∈ v.list.map V.down from hx)
       exact (ih y hy).2
     · exact (ih x hx).1
   exact ⟨key v hl,key v.down (by rw [V.down_down]; exact hl)⟩
theorem refBytes_any (p : Int) (v : V) : Ds p v:=by
 by_cases hp3 : p = 3
 · subst hp3; exact rb3_any v
 · exact (rb2_two hp3 v).1
end Go.Proofs.YtagkgfniihiinaaGreatDoor
