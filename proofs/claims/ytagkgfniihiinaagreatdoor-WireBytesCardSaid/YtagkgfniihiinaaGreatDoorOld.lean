/- wire.old, at every value. -/
import Derived.Test.YtagkgfniihiinaaGreatDoorDownP
namespace Go.Proofs.YtagkgfniihiinaaGreatDoor
open Go.RowKit Go.Joins
def OldQ (v : V) (B : Nat) (w : World) (s : ByteArray) (e : Ending) (w' : World) : Prop:=∃ b',e = .returned b' /\ Row B w' b' (s ++ ⟨v.old.toArray⟩) /\ Below B w w' /\ NB w w'
theorem oldL_len (l : List V) (d : Int) (h : V.fineL l d = true) (r : V.rangedL l) (c : V.countL l <= 100000) : (V.oldL l).length <= 5000 * V.countL l:=by
 induction l with
 | nil => exact Nat.zero_le _
 | cons p l ih =>
   simp only [V.fineL,Bool.and_eq_true] at h;simp only [V.countL] at c ⊢;have h1:=(old_len p d h.1.2 r.1 (by omega)).2;have h2:=ih h.2 r.2 (by omega);rw [V.oldL,List.length_append]; omega
set_option maxRecDepth 100000 in
set_option maxHeartbeats 3200000 in
theorem old_6 {v : V} {t : ByteArray} {i : Int} {r : Nat} {f : Bool} {a : Option Addr} {n cap : Nat} {d : Int} {B : Nat} {w : World} {b : Value} {s : ByteArray} (hp : PutH v 6 t i r f a n cap d B w b s) :
   Calls Tryz.prog 34 #[b,.agg #[.int .i64 6,.string t,.int .i64 i,.float .f64 r,.bool f,.slice a n cap]] w (OldQ v B w s):=by
 obtain ⟨hv,hf,hr,hc,hL,hR,hB,hs⟩:=hp
 obtain ⟨ek,et,ei,er,ef,en⟩:=hv.len
 have hfe:=hf
 rw [V.fine_eq,Bool.and_eq_true,Bool.and_eq_true] at hfe
 have ok:=Ak hfe.1.1
 have hts:=ok.size
 rw [<- et] at hts
 have hra:=hr
 rw [V.ranged_eq,<- ei,<- er] at hra
 have hcp:=v.count_pos
 have hce0:=v.count_eq
 have hln:=V.length_le v.list
 rw [<- en] at hln
 have hn9 : n <= 100000:=by omega
 clear hce0 hln
 replace hL:=Hd hL
 replace hR:=Hd hR
 replace hv:=Hd hv
 replace hf:=Hd hf
 replace hr:=Hd hr
 replace ok:=Hd ok
 replace hfe:=Hd hfe
 replace hra:=Hd hra
 replace ek:=Hd ek
 replace et:=Hd et
 replace ei:=Hd ei
 replace er:=Hd er
 replace ef:=Hd ef
 replace en:=Hd en
 obtain ⟨W1,hW1⟩ : ∃ W1,W1 = w.alloc (.cells #[.int .i64 6,.string t,.int .i64 i,.float .f64 r,.bool f,.slice a n cap] 26):=⟨_,rfl⟩
 have hb0 : Below w.heap.size w W1:=by rw [hW1]; exact (Below.refl _ _).alloc (Nat.le_refl _) _
 have hcell : ∀ q u,#[.int .i64 6,.string t,.int .i64 i,.float .f64 r,.bool f,.slice a n cap][q]? = some u -> W1.cell? ⟨w.heap.size,q,none⟩ = some u:=fun q u h => by rw [hW1,World.cell?_alloc_new]; exact h
 have g0:=hcell 0 (.int .i64 6) rfl
 have g1:=hcell 1 (.string t) rfl
 have g2:=hcell 2 (.int .i64 i) rfl
 have g3:=hcell 3 (.float .f64 r) rfl
 have g4:=hcell 4 (.bool f) rfl
 have g5:=hcell 5 (.slice a n cap) rfl
 have hR2:=hR.out.below hb0 (Nat.le_refl _)
 have hL2:=hL.out.below hb0 hB
 have hB2 : B <= W1.heap.size:=Nat.le_trans hB hb0.size
 have hbB : Below B w W1:=hb0.mono hB
 have nb2 : NB w W1:=NB.of_below hb0
 have hbox : W1.heap[w.heap.size]? = some (.cells #[.int .i64 6,.string t,.int .i64 i,.float .f64 r,.bool f,.slice a n cap] 26):=by rw [hW1]; exact Al _ _
 clear hcell
 replace hb0:=Hd hb0
 replace hW1:=Hd hW1
 replace nb2:=Hd nb2
 replace hbox:=Hd hbox
 replace hR2:=Hd hR2
 replace hL2:=Hd hL2
 replace hbB:=Hd hbB
 go_enter Tryz.func34,Tryz.ntmps34
 go_upto_region 1 with fail
 rw [<- hW1.out]
 have hwe : (⟨v.old.toArray⟩ : ByteArray) = ⟨#[36,45,49,13,10]⟩:=by rw [V.old_eq,<- ek.out]; rfl
 replace hwe:=Hd hwe
 have hn5 : s.size + (⟨#[36,45,49,13,10]⟩ : ByteArray).size <= 140737488355328:=by
   have : (⟨#[36,45,49,13,10]⟩ : ByteArray).size = 5:=rfl;omega
 go_wp2_with (at_builtin; refine Di rfl rfl rfl hR2.out rfl hn5 hB2 ?_)
 intro v3 w3 hR3 hb3 n3
 rw [<- hwe.out] at hR3
 have hb13:=hbB.out.trans hb3
 have nb3:=nb2.out.trans n3
 replace hR3:=Hd hR3
 replace hb13:=Hd hb13
 replace nb3:=Hd nb3
 clear hb3 n3 g0 g1 g2 g3 g4 g5
 go_wp2_with fail
 go_ret
 exact ⟨_,rfl,hR3.out,hb13.out,nb3.out⟩
set_option maxRecDepth 100000 in
set_option maxHeartbeats 3200000 in
theorem old_1 {v : V} {t : ByteArray} {i : Int} {r : Nat} {f : Bool} {a : Option Addr} {n cap : Nat} {d : Int} {B : Nat} {w : World} {b : Value} {s : ByteArray} (hp : PutH v 1 t i r f a n cap d B w b s) :
   Calls Tryz.prog 34 #[b,.agg #[.int .i64 1,.string t,.int .i64 i,.float .f64 r,.bool f,.slice a n cap]] w (OldQ v B w s):=by
 have hp1:=hp
 obtain ⟨hv,hf,hr,hc,hL,hR,hB,hs⟩:=hp
 obtain ⟨ek,et,ei,er,ef,en⟩:=hv.len
 have hfe:=hf
 rw [V.fine_eq,Bool.and_eq_true,Bool.and_eq_true] at hfe
 have ok:=Ak hfe.1.1
 have hts:=ok.size
 rw [<- et] at hts
 have hra:=hr
 rw [V.ranged_eq,<- ei,<- er] at hra
 have hcp:=v.count_pos
 have hce0:=v.count_eq
 have hln:=V.length_le v.list
 rw [<- en] at hln
 have hn9 : n <= 100000:=by omega
 clear hce0 hln
 replace hL:=Hd hL
 replace hR:=Hd hR
 replace hv:=Hd hv
 replace hf:=Hd hf
 replace hr:=Hd hr
 replace ok:=Hd ok
 replace hfe:=Hd hfe
 replace hra:=Hd hra
 replace ek:=Hd ek
 replace et:=Hd et
 replace ei:=Hd ei
 replace er:=Hd er
 replace ef:=Hd ef
 replace en:=Hd en
 obtain ⟨W1,hW1⟩ : ∃ W1,W1 = w.alloc (.cells #[.int .i64 1,.string t,.int .i64 i,.float .f64 r,.bool f,.slice a n cap] 26):=⟨_,rfl⟩
 have hb0 : Below w.heap.size w W1:=by rw [hW1]; exact (Below.refl _ _).alloc (Nat.le_refl _) _
 have hcell : ∀ q u,#[.int .i64 1,.string t,.int .i64 i,.float .f64 r,.bool f,.slice a n cap][q]? = some u -> W1.cell? ⟨w.heap.size,q,none⟩ = some u:=fun q u h => by rw [hW1,World.cell?_alloc_new]; exact h
 have g0:=hcell 0 (.int .i64 1) rfl
 have g1:=hcell 1 (.string t) rfl
 have g2:=hcell 2 (.int .i64 i) rfl
 have g3:=hcell 3 (.float .f64 r) rfl
 have g4:=hcell 4 (.bool f) rfl
 have g5:=hcell 5 (.slice a n cap) rfl
 have hR2:=hR.out.below hb0 (Nat.le_refl _)
 have hL2:=hL.out.below hb0 hB
 have hB2 : B <= W1.heap.size:=Nat.le_trans hB hb0.size
 have hbB : Below B w W1:=hb0.mono hB
 have nb2 : NB w W1:=NB.of_below hb0
 have hbox : W1.heap[w.heap.size]? = some (.cells #[.int .i64 1,.string t,.int .i64 i,.float .f64 r,.bool f,.slice a n cap] 26):=by rw [hW1]; exact Al _ _
 clear hcell
 replace hb0:=Hd hb0
 replace hW1:=Hd hW1
 replace nb2:=Hd nb2
 replace hbox:=Hd hbox
 replace hR2:=Hd hR2
 replace hL2:=Hd hL2
 replace hbB:=Hd hbB
 go_enter Tryz.func34,Tryz.ntmps34
 go_upto_region 1 with fail
 rw [<- hW1.out]
 have hwe : v.old = v.wire:=by rw [V.old_eq,<- ek.out]; rfl
 replace hwe:=Hd hwe
 have hput:=Cq v 1 t i r f a n cap d B W1 b s ⟨hp1.val.mono (At hbB.out),hp1.fine,hp1.ranged,hp1.count,(hp1.laid).below hb0.out hB,hp1.row.below hb0.out (Nat.le_refl _),hB2,hp1.size⟩
 have hrA : W1.rangeAt w.heap.size 0 [.int .i64 1,.string t,.int .i64 i,.float .f64 r,.bool f,.slice a n cap]:=Bt g0 g1 g2 g3 g4 g5
 replace hput:=Hd hput
 replace hrA:=Hd hrA
 replace hp1:=Hd hp1
 clear g1 g2 g3 g4 g5
 go_wp2_with (refine wpList_load_mid rfl 26 _ rfl w.heap.size 0 rfl _ _ hrA.out Tryz.underlying26 rfl Ac ?_)
 refine hput.out.mono ?_
 rintro e w3 ⟨b',rfl,hR3,hb3,n3⟩
 rw [<- hwe.out] at hR3
 have hb13:=hbB.out.trans hb3
 have nb3:=nb2.out.trans n3
 replace hR3:=Hd hR3
 replace hb13:=Hd hb13
 replace nb3:=Hd nb3
 clear hb3 n3 g0
 go_wp2_with fail
 go_ret
 exact ⟨_,rfl,hR3.out,hb13.out,nb3.out⟩
set_option maxRecDepth 100000 in
set_option maxHeartbeats 3200000 in
theorem old_2 {v : V} {t : ByteArray} {i : Int} {r : Nat} {f : Bool} {a : Option Addr} {n cap : Nat} {d : Int} {B : Nat} {w : World} {b : Value} {s : ByteArray} (hp : PutH v 2 t i r f a n cap d B w b s) :
   Calls Tryz.prog 34 #[b,.agg #[.int .i64 2,.string t,.int .i64 i,.float .f64 r,.bool f,.slice a n cap]] w (OldQ v B w s):=by
 have hp1:=hp
 obtain ⟨hv,hf,hr,hc,hL,hR,hB,hs⟩:=hp
 obtain ⟨ek,et,ei,er,ef,en⟩:=hv.len
 have hfe:=hf
 rw [V.fine_eq,Bool.and_eq_true,Bool.and_eq_true] at hfe
 have ok:=Ak hfe.1.1
 have hts:=ok.size
 rw [<- et] at hts
 have hra:=hr
 rw [V.ranged_eq,<- ei,<- er] at hra
 have hcp:=v.count_pos
 have hce0:=v.count_eq
 have hln:=V.length_le v.list
 rw [<- en] at hln
 have hn9 : n <= 100000:=by omega
 clear hce0 hln
 replace hL:=Hd hL
 replace hR:=Hd hR
 replace hv:=Hd hv
 replace hf:=Hd hf
 replace hr:=Hd hr
 replace ok:=Hd ok
 replace hfe:=Hd hfe
 replace hra:=Hd hra
 replace ek:=Hd ek
 replace et:=Hd et
 replace ei:=Hd ei
 replace er:=Hd er
 replace ef:=Hd ef
 replace en:=Hd en
 obtain ⟨W1,hW1⟩ : ∃ W1,W1 = w.alloc (.cells #[.int .i64 2,.string t,.int .i64 i,.float .f64 r,.bool f,.slice a n cap] 26):=⟨_,rfl⟩
 have hb0 : Below w.heap.size w W1:=by rw [hW1]; exact (Below.refl _ _).alloc (Nat.le_refl _) _
 have hcell : ∀ q u,#[.int .i64 2,.string t,.int .i64 i,.float .f64 r,.bool f,.slice a n cap][q]? = some u -> W1.cell? ⟨w.heap.size,q,none⟩ = some u:=fun q u h => by rw [hW1,World.cell?_alloc_new]; exact h
 have g0:=hcell 0 (.int .i64 2) rfl
 have g1:=hcell 1 (.string t) rfl
 have g2:=hcell 2 (.int .i64 i) rfl
 have g3:=hcell 3 (.float .f64 r) rfl
 have g4:=hcell 4 (.bool f) rfl
 have g5:=hcell 5 (.slice a n cap) rfl
 have hR2:=hR.out.below hb0 (Nat.le_refl _)
 have hL2:=hL.out.below hb0 hB
 have hB2 : B <= W1.heap.size:=Nat.le_trans hB hb0.size
 have hbB : Below B w W1:=hb0.mono hB
 have nb2 : NB w W1:=NB.of_below hb0
 have hbox : W1.heap[w.heap.size]? = some (.cells #[.int .i64 2,.string t,.int .i64 i,.float .f64 r,.bool f,.slice a n cap] 26):=by rw [hW1]; exact Al _ _
 clear hcell
 replace hb0:=Hd hb0
 replace hW1:=Hd hW1
 replace nb2:=Hd nb2
 replace hbox:=Hd hbox
 replace hR2:=Hd hR2
 replace hL2:=Hd hL2
 replace hbB:=Hd hbB
 go_enter Tryz.func34,Tryz.ntmps34
 go_upto_region 1 with fail
 rw [<- hW1.out]
 have hwe : v.old = v.wire:=by rw [V.old_eq,<- ek.out]; rfl
 replace hwe:=Hd hwe
 have hput:=Cq v 2 t i r f a n cap d B W1 b s ⟨hp1.val.mono (At hbB.out),hp1.fine,hp1.ranged,hp1.count,(hp1.laid).below hb0.out hB,hp1.row.below hb0.out (Nat.le_refl _),hB2,hp1.size⟩
 have hrA : W1.rangeAt w.heap.size 0 [.int .i64 2,.string t,.int .i64 i,.float .f64 r,.bool f,.slice a n cap]:=Bt g0 g1 g2 g3 g4 g5
 replace hput:=Hd hput
 replace hrA:=Hd hrA
 replace hp1:=Hd hp1
 clear g1 g2 g3 g4 g5
 go_wp2_with (refine wpList_load_mid rfl 26 _ rfl w.heap.size 0 rfl _ _ hrA.out Tryz.underlying26 rfl Ac ?_)
 refine hput.out.mono ?_
 rintro e w3 ⟨b',rfl,hR3,hb3,n3⟩
 rw [<- hwe.out] at hR3
 have hb13:=hbB.out.trans hb3
 have nb3:=nb2.out.trans n3
 replace hR3:=Hd hR3
 replace hb13:=Hd hb13
 replace nb3:=Hd nb3
 clear hb3 n3 g0
 go_wp2_with fail
 go_ret
 exact ⟨_,rfl,hR3.out,hb13.out,nb3.out⟩
set_option maxRecDepth 100000 in
set_option maxHeartbeats 3200000 in
theorem old_9 {v : V} {t : ByteArray} {i : Int} {r : Nat} {f : Bool} {a : Option Addr} {n cap : Nat} {d : Int} {B : Nat} {w : World} {b : Value} {s : ByteArray} (hp : PutH v 9 t i r f a n cap d B w b s) :
   Calls Tryz.prog 34 #[b,.agg #[.int .i64 9,.string t,.int .i64 i,.float .f64 r,.bool f,.slice a n cap]] w (OldQ v B w s):=by
 have hp1:=hp
 obtain ⟨hv,hf,hr,hc,hL,hR,hB,hs⟩:=hp
 obtain ⟨ek,et,ei,er,ef,en⟩:=hv.len
 have hfe:=hf
 rw [V.fine_eq,Bool.and_eq_true,Bool.and_eq_true] at hfe
 have ok:=Ak hfe.1.1
 have hts:=ok.size
 rw [<- et] at hts
 have hra:=hr
 rw [V.ranged_eq,<- ei,<- er] at hra
 have hcp:=v.count_pos
 have hce0:=v.count_eq
 have hln:=V.length_le v.list
 rw [<- en] at hln
 have hn9 : n <= 100000:=by omega
 clear hce0 hln
 replace hL:=Hd hL
 replace hR:=Hd hR
 replace hv:=Hd hv
 replace hf:=Hd hf
 replace hr:=Hd hr
 replace ok:=Hd ok
 replace hfe:=Hd hfe
 replace hra:=Hd hra
 replace ek:=Hd ek
 replace et:=Hd et
 replace ei:=Hd ei
 replace er:=Hd er
 replace ef:=Hd ef
 replace en:=Hd en
 obtain ⟨W1,hW1⟩ : ∃ W1,W1 = w.alloc (.cells #[.int .i64 9,.string t,.int .i64 i,.float .f64 r,.bool f,.slice a n cap] 26):=⟨_,rfl⟩
 have hb0 : Below w.heap.size w W1:=by rw [hW1]; exact (Below.refl _ _).alloc (Nat.le_refl _) _
 have hcell : ∀ q u,#[.int .i64 9,.string t,.int .i64 i,.float .f64 r,.bool f,.slice a n cap][q]? = some u -> W1.cell? ⟨w.heap.size,q,none⟩ = some u:=fun q u h => by rw [hW1,World.cell?_alloc_new]; exact h
 have g0:=hcell 0 (.int .i64 9) rfl
 have g1:=hcell 1 (.string t) rfl
 have g2:=hcell 2 (.int .i64 i) rfl
 have g3:=hcell 3 (.float .f64 r) rfl
 have g4:=hcell 4 (.bool f) rfl
 have g5:=hcell 5 (.slice a n cap) rfl
 have hR2:=hR.out.below hb0 (Nat.le_refl _)
 have hL2:=hL.out.below hb0 hB
 have hB2 : B <= W1.heap.size:=Nat.le_trans hB hb0.size
 have hbB : Below B w W1:=hb0.mono hB
 have nb2 : NB w W1:=NB.of_below hb0
 have hbox : W1.heap[w.heap.size]? = some (.cells #[.int .i64 9,.string t,.int .i64 i,.float .f64 r,.bool f,.slice a n cap] 26):=by rw [hW1]; exact Al _ _
 clear hcell
 replace hb0:=Hd hb0
 replace hW1:=Hd hW1
 replace nb2:=Hd nb2
 replace hbox:=Hd hbox
 replace hR2:=Hd hR2
 replace hL2:=Hd hL2
 replace hbB:=Hd hbB
 go_enter Tryz.func34,Tryz.ntmps34
 go_upto_region 1 with fail
 rw [<- hW1.out]
 have hwe : v.old = v.wire:=by rw [V.old_eq,<- ek.out]; rfl
 replace hwe:=Hd hwe
 have hput:=Cq v 9 t i r f a n cap d B W1 b s ⟨hp1.val.mono (At hbB.out),hp1.fine,hp1.ranged,hp1.count,(hp1.laid).below hb0.out hB,hp1.row.below hb0.out (Nat.le_refl _),hB2,hp1.size⟩
 have hrA : W1.rangeAt w.heap.size 0 [.int .i64 9,.string t,.int .i64 i,.float .f64 r,.bool f,.slice a n cap]:=Bt g0 g1 g2 g3 g4 g5
 replace hput:=Hd hput
 replace hrA:=Hd hrA
 replace hp1:=Hd hp1
 clear g1 g2 g3 g4 g5
 go_wp2_with (refine wpList_load_mid rfl 26 _ rfl w.heap.size 0 rfl _ _ hrA.out Tryz.underlying26 rfl Ac ?_)
 refine hput.out.mono ?_
 rintro e w3 ⟨b',rfl,hR3,hb3,n3⟩
 rw [<- hwe.out] at hR3
 have hb13:=hbB.out.trans hb3
 have nb3:=nb2.out.trans n3
 replace hR3:=Hd hR3
 replace hb13:=Hd hb13
 replace nb3:=Hd nb3
 clear hb3 n3 g0
 go_wp2_with fail
 go_ret
 exact ⟨_,rfl,hR3.out,hb13.out,nb3.out⟩
set_option maxRecDepth 100000 in
set_option maxHeartbeats 3200000 in
theorem old_3 {v : V} {t : ByteArray} {i : Int} {r : Nat} {f : Bool} {a : Option Addr} {n cap : Nat} {d : Int} {B : Nat} {w : World} {b : Value} {s : ByteArray} (hp : PutH v 3 t i r f a n cap d B w b s) :
   Calls Tryz.prog 34 #[b,.agg #[.int .i64 3,.string t,.int .i64 i,.float .f64 r,.bool f,.slice a n cap]] w (OldQ v B w s):=by
 have hp1:=hp
 obtain ⟨hv,hf,hr,hc,hL,hR,hB,hs⟩:=hp
 obtain ⟨ek,et,ei,er,ef,en⟩:=hv.len
 have hfe:=hf
 rw [V.fine_eq,Bool.and_eq_true,Bool.and_eq_true] at hfe
 have ok:=Ak hfe.1.1
 have hts:=ok.size
 rw [<- et] at hts
 have hra:=hr
 rw [V.ranged_eq,<- ei,<- er] at hra
 have hcp:=v.count_pos
 have hce0:=v.count_eq
 have hln:=V.length_le v.list
 rw [<- en] at hln
 have hn9 : n <= 100000:=by omega
 clear hce0 hln
 replace hL:=Hd hL
 replace hR:=Hd hR
 replace hv:=Hd hv
 replace hf:=Hd hf
 replace hr:=Hd hr
 replace ok:=Hd ok
 replace hfe:=Hd hfe
 replace hra:=Hd hra
 replace ek:=Hd ek
 replace et:=Hd et
 replace ei:=Hd ei
 replace er:=Hd er
 replace ef:=Hd ef
 replace en:=Hd en
 obtain ⟨W1,hW1⟩ : ∃ W1,W1 = w.alloc (.cells #[.int .i64 3,.string t,.int .i64 i,.float .f64 r,.bool f,.slice a n cap] 26):=⟨_,rfl⟩
 have hb0 : Below w.heap.size w W1:=by rw [hW1]; exact (Below.refl _ _).alloc (Nat.le_refl _) _
 have hcell : ∀ q u,#[.int .i64 3,.string t,.int .i64 i,.float .f64 r,.bool f,.slice a n cap][q]? = some u -> W1.cell? ⟨w.heap.size,q,none⟩ = some u:=fun q u h => by rw [hW1,World.cell?_alloc_new]; exact h
 have g0:=hcell 0 (.int .i64 3) rfl
 have g1:=hcell 1 (.string t) rfl
 have g2:=hcell 2 (.int .i64 i) rfl
 have g3:=hcell 3 (.float .f64 r) rfl
 have g4:=hcell 4 (.bool f) rfl
 have g5:=hcell 5 (.slice a n cap) rfl
 have hR2:=hR.out.below hb0 (Nat.le_refl _)
 have hL2:=hL.out.below hb0 hB
 have hB2 : B <= W1.heap.size:=Nat.le_trans hB hb0.size
 have hbB : Below B w W1:=hb0.mono hB
 have nb2 : NB w W1:=NB.of_below hb0
 have hbox : W1.heap[w.heap.size]? = some (.cells #[.int .i64 3,.string t,.int .i64 i,.float .f64 r,.bool f,.slice a n cap] 26):=by rw [hW1]; exact Al _ _
 clear hcell
 replace hb0:=Hd hb0
 replace hW1:=Hd hW1
 replace nb2:=Hd nb2
 replace hbox:=Hd hbox
 replace hR2:=Hd hR2
 replace hL2:=Hd hL2
 replace hbB:=Hd hbB
 go_enter Tryz.func34,Tryz.ntmps34
 go_upto_region 1 with fail
 rw [<- hW1.out]
 have hwe : v.old = v.wire:=by rw [V.old_eq,<- ek.out]; rfl
 replace hwe:=Hd hwe
 have hput:=Cq v 3 t i r f a n cap d B W1 b s ⟨hp1.val.mono (At hbB.out),hp1.fine,hp1.ranged,hp1.count,(hp1.laid).below hb0.out hB,hp1.row.below hb0.out (Nat.le_refl _),hB2,hp1.size⟩
 have hrA : W1.rangeAt w.heap.size 0 [.int .i64 3,.string t,.int .i64 i,.float .f64 r,.bool f,.slice a n cap]:=Bt g0 g1 g2 g3 g4 g5
 replace hput:=Hd hput
 replace hrA:=Hd hrA
 replace hp1:=Hd hp1
 clear g1 g2 g3 g4 g5
 go_wp2_with (refine wpList_load_mid rfl 26 _ rfl w.heap.size 0 rfl _ _ hrA.out Tryz.underlying26 rfl Ac ?_)
 refine hput.out.mono ?_
 rintro e w3 ⟨b',rfl,hR3,hb3,n3⟩
 rw [<- hwe.out] at hR3
 have hb13:=hbB.out.trans hb3
 have nb3:=nb2.out.trans n3
 replace hR3:=Hd hR3
 replace hb13:=Hd hb13
 replace nb3:=Hd nb3
 clear hb3 n3 g0
 go_wp2_with fail
 go_ret
 exact ⟨_,rfl,hR3.out,hb13.out,nb3.out⟩
set_option maxRecDepth 100000 in
set_option maxHeartbeats 3200000 in
theorem old_7 {v : V} {t : ByteArray} {i : Int} {r : Nat} {f : Bool} {a : Option Addr} {n cap : Nat} {d : Int} {B : Nat} {w : World} {b : Value} {s : ByteArray} (hp : PutH v 7 t i r f a n cap d B w b s) :
   Calls Tryz.prog 34 #[b,.agg #[.int .i64 7,.string t,.int .i64 i,.float .f64 r,.bool f,.slice a n cap]] w (OldQ v B w s):=by
 have hp1:=hp
 obtain ⟨hv,hf,hr,hc,hL,hR,hB,hs⟩:=hp
 obtain ⟨ek,et,ei,er,ef,en⟩:=hv.len
 have hfe:=hf
 rw [V.fine_eq,Bool.and_eq_true,Bool.and_eq_true] at hfe
 have ok:=Ak hfe.1.1
 have hts:=ok.size
 rw [<- et] at hts
 have hra:=hr
 rw [V.ranged_eq,<- ei,<- er] at hra
 have hcp:=v.count_pos
 have hce0:=v.count_eq
 have hln:=V.length_le v.list
 rw [<- en] at hln
 have hn9 : n <= 100000:=by omega
 clear hce0 hln
 replace hL:=Hd hL
 replace hR:=Hd hR
 replace hv:=Hd hv
 replace hf:=Hd hf
 replace hr:=Hd hr
 replace ok:=Hd ok
 replace hfe:=Hd hfe
 replace hra:=Hd hra
 replace ek:=Hd ek
 replace et:=Hd et
 replace ei:=Hd ei
 replace er:=Hd er
 replace ef:=Hd ef
 replace en:=Hd en
 obtain ⟨W1,hW1⟩ : ∃ W1,W1 = w.alloc (.cells #[.int .i64 7,.string t,.int .i64 i,.float .f64 r,.bool f,.slice a n cap] 26):=⟨_,rfl⟩
 have hb0 : Below w.heap.size w W1:=by rw [hW1]; exact (Below.refl _ _).alloc (Nat.le_refl _) _
 have hcell : ∀ q u,#[.int .i64 7,.string t,.int .i64 i,.float .f64 r,.bool f,.slice a n cap][q]? = some u -> W1.cell? ⟨w.heap.size,q,none⟩ = some u:=fun q u h => by rw [hW1,World.cell?_alloc_new]; exact h
 have g0:=hcell 0 (.int .i64 7) rfl
 have g1:=hcell 1 (.string t) rfl
 have g2:=hcell 2 (.int .i64 i) rfl
 have g3:=hcell 3 (.float .f64 r) rfl
 have g4:=hcell 4 (.bool f) rfl
 have g5:=hcell 5 (.slice a n cap) rfl
 have hR2:=hR.out.below hb0 (Nat.le_refl _)
 have hL2:=hL.out.below hb0 hB
 have hB2 : B <= W1.heap.size:=Nat.le_trans hB hb0.size
 have hbB : Below B w W1:=hb0.mono hB
 have nb2 : NB w W1:=NB.of_below hb0
 have hbox : W1.heap[w.heap.size]? = some (.cells #[.int .i64 7,.string t,.int .i64 i,.float .f64 r,.bool f,.slice a n cap] 26):=by rw [hW1]; exact Al _ _
 clear hcell
 replace hb0:=Hd hb0
 replace hW1:=Hd hW1
 replace nb2:=Hd nb2
 replace hbox:=Hd hbox
 replace hR2:=Hd hR2
 replace hL2:=Hd hL2
 replace hbB:=Hd hbB
 go_enter Tryz.func34,Tryz.ntmps34
 go_upto_region 1 with fail
 rw [<- hW1.out]
 have hwe : v.old = v.wire:=by rw [V.old_eq,<- ek.out]; rfl
 replace hwe:=Hd hwe
 have hput:=Cq v 7 t i r f a n cap d B W1 b s ⟨hp1.val.mono (At hbB.out),hp1.fine,hp1.ranged,hp1.count,(hp1.laid).below hb0.out hB,hp1.row.below hb0.out (Nat.le_refl _),hB2,hp1.size⟩
 have hrA : W1.rangeAt w.heap.size 0 [.int .i64 7,.string t,.int .i64 i,.float .f64 r,.bool f,.slice a n cap]:=Bt g0 g1 g2 g3 g4 g5
 replace hput:=Hd hput
 replace hrA:=Hd hrA
 replace hp1:=Hd hp1
 clear g1 g2 g3 g4 g5
 go_wp2_with (refine wpList_load_mid rfl 26 _ rfl w.heap.size 0 rfl _ _ hrA.out Tryz.underlying26 rfl Ac ?_)
 refine hput.out.mono ?_
 rintro e w3 ⟨b',rfl,hR3,hb3,n3⟩
 rw [<- hwe.out] at hR3
 have hb13:=hbB.out.trans hb3
 have nb3:=nb2.out.trans n3
 replace hR3:=Hd hR3
 replace hb13:=Hd hb13
 replace nb3:=Hd nb3
 clear hb3 n3 g0
 go_wp2_with fail
 go_ret
 exact ⟨_,rfl,hR3.out,hb13.out,nb3.out⟩
set_option maxRecDepth 100000 in
set_option maxHeartbeats 3200000 in
theorem old_8 {v : V} {t : ByteArray} {i : Int} {r : Nat} {f : Bool} {a : Option Addr} {n cap : Nat} {d : Int} {B : Nat} {w : World} {b : Value} {s : ByteArray} (hp : PutH v 8 t i r f a n cap d B w b s) :
   Calls Tryz.prog 34 #[b,.agg #[.int .i64 8,.string t,.int .i64 i,.float .f64 r,.bool f,.slice a n cap]] w (OldQ v B w s):=by
 have hp1:=hp
 obtain ⟨hv,hf,hr,hc,hL,hR,hB,hs⟩:=hp
 obtain ⟨ek,et,ei,er,ef,en⟩:=hv.len
 have hfe:=hf
 rw [V.fine_eq,Bool.and_eq_true,Bool.and_eq_true] at hfe
 have ok:=Ak hfe.1.1
 have hts:=ok.size
 rw [<- et] at hts
 have hra:=hr
 rw [V.ranged_eq,<- ei,<- er] at hra
 have hcp:=v.count_pos
 have hce0:=v.count_eq
 have hln:=V.length_le v.list
 rw [<- en] at hln
 have hn9 : n <= 100000:=by omega
 clear hce0 hln
 replace hL:=Hd hL
 replace hR:=Hd hR
 replace hv:=Hd hv
 replace hf:=Hd hf
 replace hr:=Hd hr
 replace ok:=Hd ok
 replace hfe:=Hd hfe
 replace hra:=Hd hra
 replace ek:=Hd ek
 replace et:=Hd et
 replace ei:=Hd ei
 replace er:=Hd er
 replace ef:=Hd ef
 replace en:=Hd en
 obtain ⟨W1,hW1⟩ : ∃ W1,W1 = w.alloc (.cells #[.int .i64 8,.string t,.int .i64 i,.float .f64 r,.bool f,.slice a n cap] 26):=⟨_,rfl⟩
 have hb0 : Below w.heap.size w W1:=by rw [hW1]; exact (Below.refl _ _).alloc (Nat.le_refl _) _
 have hcell : ∀ q u,#[.int .i64 8,.string t,.int .i64 i,.float .f64 r,.bool f,.slice a n cap][q]? = some u -> W1.cell? ⟨w.heap.size,q,none⟩ = some u:=fun q u h => by rw [hW1,World.cell?_alloc_new]; exact h
 have g0:=hcell 0 (.int .i64 8) rfl
 have g1:=hcell 1 (.string t) rfl
 have g2:=hcell 2 (.int .i64 i) rfl
 have g3:=hcell 3 (.float .f64 r) rfl
 have g4:=hcell 4 (.bool f) rfl
 have g5:=hcell 5 (.slice a n cap) rfl
 have hR2:=hR.out.below hb0 (Nat.le_refl _)
 have hL2:=hL.out.below hb0 hB
 have hB2 : B <= W1.heap.size:=Nat.le_trans hB hb0.size
 have hbB : Below B w W1:=hb0.mono hB
 have nb2 : NB w W1:=NB.of_below hb0
 have hbox : W1.heap[w.heap.size]? = some (.cells #[.int .i64 8,.string t,.int .i64 i,.float .f64 r,.bool f,.slice a n cap] 26):=by rw [hW1]; exact Al _ _
 clear hcell
 replace hb0:=Hd hb0
 replace hW1:=Hd hW1
 replace nb2:=Hd nb2
 replace hbox:=Hd hbox
 replace hR2:=Hd hR2
 replace hL2:=Hd hL2
 replace hbB:=Hd hbB
 go_enter Tryz.func34,Tryz.ntmps34
 go_upto_region 1 with fail
 rw [<- hW1.out]
 have hwe : v.old = v.wire:=by rw [V.old_eq,<- ek.out]; rfl
 replace hwe:=Hd hwe
 have hput:=Cq v 8 t i r f a n cap d B W1 b s ⟨hp1.val.mono (At hbB.out),hp1.fine,hp1.ranged,hp1.count,(hp1.laid).below hb0.out hB,hp1.row.below hb0.out (Nat.le_refl _),hB2,hp1.size⟩
 have hrA : W1.rangeAt w.heap.size 0 [.int .i64 8,.string t,.int .i64 i,.float .f64 r,.bool f,.slice a n cap]:=Bt g0 g1 g2 g3 g4 g5
 replace hput:=Hd hput
 replace hrA:=Hd hrA
 replace hp1:=Hd hp1
 clear g1 g2 g3 g4 g5
 go_wp2_with (refine wpList_load_mid rfl 26 _ rfl w.heap.size 0 rfl _ _ hrA.out Tryz.underlying26 rfl Ac ?_)
 refine hput.out.mono ?_
 rintro e w3 ⟨b',rfl,hR3,hb3,n3⟩
 rw [<- hwe.out] at hR3
 have hb13:=hbB.out.trans hb3
 have nb3:=nb2.out.trans n3
 replace hR3:=Hd hR3
 replace hb13:=Hd hb13
 replace nb3:=Hd nb3
 clear hb3 n3 g0
 go_wp2_with fail
 go_ret
 exact ⟨_,rfl,hR3.out,hb13.out,nb3.out⟩
set_option maxRecDepth 100000 in
set_option maxHeartbeats 3200000 in
theorem old_4 {v : V} {t : ByteArray} {i : Int} {r : Nat} {f : Bool} {a : Option Addr} {n cap : Nat} {d : Int} {B : Nat} {w : World} {b : Value} {s : ByteArray} (hp : PutH v 4 t i r f a n cap d B w b s) :
   Calls Tryz.prog 34 #[b,.agg #[.int .i64 4,.string t,.int .i64 i,.float .f64 r,.bool f,.slice a n cap]] w (OldQ v B w s):=by
 have hp1:=hp
 obtain ⟨hv,hf,hr,hc,hL,hR,hB,hs⟩:=hp
 obtain ⟨ek,et,ei,er,ef,en⟩:=hv.len
 have hfe:=hf
 rw [V.fine_eq,Bool.and_eq_true,Bool.and_eq_true] at hfe
 have ok:=Ak hfe.1.1
 have hts:=ok.size
 rw [<- et] at hts
 have hra:=hr
 rw [V.ranged_eq,<- ei,<- er] at hra
 have hcp:=v.count_pos
 have hce0:=v.count_eq
 have hln:=V.length_le v.list
 rw [<- en] at hln
 have hn9 : n <= 100000:=by omega
 clear hce0 hln
 replace hL:=Hd hL
 replace hR:=Hd hR
 replace hv:=Hd hv
 replace hf:=Hd hf
 replace hr:=Hd hr
 replace ok:=Hd ok
 replace hfe:=Hd hfe
 replace hra:=Hd hra
 replace ek:=Hd ek
 replace et:=Hd et
 replace ei:=Hd ei
 replace er:=Hd er
 replace ef:=Hd ef
 replace en:=Hd en
 obtain ⟨W1,hW1⟩ : ∃ W1,W1 = w.alloc (.cells #[.int .i64 4,.string t,.int .i64 i,.float .f64 r,.bool f,.slice a n cap] 26):=⟨_,rfl⟩
 have hb0 : Below w.heap.size w W1:=by rw [hW1]; exact (Below.refl _ _).alloc (Nat.le_refl _) _
 have hcell : ∀ q u,#[.int .i64 4,.string t,.int .i64 i,.float .f64 r,.bool f,.slice a n cap][q]? = some u -> W1.cell? ⟨w.heap.size,q,none⟩ = some u:=fun q u h => by rw [hW1,World.cell?_alloc_new]; exact h
 have g0:=hcell 0 (.int .i64 4) rfl
 have g1:=hcell 1 (.string t) rfl
 have g2:=hcell 2 (.int .i64 i) rfl
 have g3:=hcell 3 (.float .f64 r) rfl
 have g4:=hcell 4 (.bool f) rfl
 have g5:=hcell 5 (.slice a n cap) rfl
 have hR2:=hR.out.below hb0 (Nat.le_refl _)
 have hL2:=hL.out.below hb0 hB
 have hB2 : B <= W1.heap.size:=Nat.le_trans hB hb0.size
 have hbB : Below B w W1:=hb0.mono hB
 have nb2 : NB w W1:=NB.of_below hb0
 have hbox : W1.heap[w.heap.size]? = some (.cells #[.int .i64 4,.string t,.int .i64 i,.float .f64 r,.bool f,.slice a n cap] 26):=by rw [hW1]; exact Al _ _
 clear hcell
 replace hb0:=Hd hb0
 replace hW1:=Hd hW1
 replace nb2:=Hd nb2
 replace hbox:=Hd hbox
 replace hR2:=Hd hR2
 replace hL2:=Hd hL2
 replace hbB:=Hd hbB
 go_enter Tryz.func34,Tryz.ntmps34
 go_upto_region 1 with fail
 rw [<- hW1.out]
 have hwe : v.old = v.wire:=by rw [V.old_eq,<- ek.out]; rfl
 replace hwe:=Hd hwe
 have hput:=Cq v 4 t i r f a n cap d B W1 b s ⟨hp1.val.mono (At hbB.out),hp1.fine,hp1.ranged,hp1.count,(hp1.laid).below hb0.out hB,hp1.row.below hb0.out (Nat.le_refl _),hB2,hp1.size⟩
 have hrA : W1.rangeAt w.heap.size 0 [.int .i64 4,.string t,.int .i64 i,.float .f64 r,.bool f,.slice a n cap]:=Bt g0 g1 g2 g3 g4 g5
 replace hput:=Hd hput
 replace hrA:=Hd hrA
 replace hp1:=Hd hp1
 clear g1 g2 g3 g4 g5
 go_wp2_with (refine wpList_load_mid rfl 26 _ rfl w.heap.size 0 rfl _ _ hrA.out Tryz.underlying26 rfl Ac ?_)
 refine hput.out.mono ?_
 rintro e w3 ⟨b',rfl,hR3,hb3,n3⟩
 rw [<- hwe.out] at hR3
 have hb13:=hbB.out.trans hb3
 have nb3:=nb2.out.trans n3
 replace hR3:=Hd hR3
 replace hb13:=Hd hb13
 replace nb3:=Hd nb3
 clear hb3 n3 g0
 go_wp2_with fail
 go_ret
 exact ⟨_,rfl,hR3.out,hb13.out,nb3.out⟩
set_option maxRecDepth 100000 in
set_option maxHeartbeats 3200000 in
theorem old_10 {v : V} {t : ByteArray} {i : Int} {r : Nat} {f : Bool} {a : Option Addr} {n cap : Nat} {d : Int} {B : Nat} {w : World} {b : Value} {s : ByteArray} (hp : PutH v 10 t i r f a n cap d B w b s) :
   Calls Tryz.prog 34 #[b,.agg #[.int .i64 10,.string t,.int .i64 i,.float .f64 r,.bool f,.slice a n cap]] w (OldQ v B w s):=by
 have hp1:=hp
 obtain ⟨hv,hf,hr,hc,hL,hR,hB,hs⟩:=hp
 obtain ⟨ek,et,ei,er,ef,en⟩:=hv.len
 have hfe:=hf
 rw [V.fine_eq,Bool.and_eq_true,Bool.and_eq_true] at hfe
 have ok:=Ak hfe.1.1
 have hts:=ok.size
 rw [<- et] at hts
 have hra:=hr
 rw [V.ranged_eq,<- ei,<- er] at hra
 have hcp:=v.count_pos
 have hce0:=v.count_eq
 have hln:=V.length_le v.list
 rw [<- en] at hln
 have hn9 : n <= 100000:=by omega
 clear hce0 hln
 replace hL:=Hd hL
 replace hR:=Hd hR
 replace hv:=Hd hv
 replace hf:=Hd hf
 replace hr:=Hd hr
 replace ok:=Hd ok
 replace hfe:=Hd hfe
 replace hra:=Hd hra
 replace ek:=Hd ek
 replace et:=Hd et
 replace ei:=Hd ei
 replace er:=Hd er
 replace ef:=Hd ef
 replace en:=Hd en
 obtain ⟨W1,hW1⟩ : ∃ W1,W1 = w.alloc (.cells #[.int .i64 10,.string t,.int .i64 i,.float .f64 r,.bool f,.slice a n cap] 26):=⟨_,rfl⟩
 have hb0 : Below w.heap.size w W1:=by rw [hW1]; exact (Below.refl _ _).alloc (Nat.le_refl _) _
 have hcell : ∀ q u,#[.int .i64 10,.string t,.int .i64 i,.float .f64 r,.bool f,.slice a n cap][q]? = some u -> W1.cell? ⟨w.heap.size,q,none⟩ = some u:=fun q u h => by rw [hW1,World.cell?_alloc_new]; exact h
 have g0:=hcell 0 (.int .i64 10) rfl
 have g1:=hcell 1 (.string t) rfl
 have g2:=hcell 2 (.int .i64 i) rfl
 have g3:=hcell 3 (.float .f64 r) rfl
 have g4:=hcell 4 (.bool f) rfl
 have g5:=hcell 5 (.slice a n cap) rfl
 have hR2:=hR.out.below hb0 (Nat.le_refl _)
 have hL2:=hL.out.below hb0 hB
 have hB2 : B <= W1.heap.size:=Nat.le_trans hB hb0.size
 have hbB : Below B w W1:=hb0.mono hB
 have nb2 : NB w W1:=NB.of_below hb0
 have hbox : W1.heap[w.heap.size]? = some (.cells #[.int .i64 10,.string t,.int .i64 i,.float .f64 r,.bool f,.slice a n cap] 26):=by rw [hW1]; exact Al _ _
 clear hcell
 replace hb0:=Hd hb0
 replace hW1:=Hd hW1
 replace nb2:=Hd nb2
 replace hbox:=Hd hbox
 replace hR2:=Hd hR2
 replace hL2:=Hd hL2
 replace hbB:=Hd hbB
 go_enter Tryz.func34,Tryz.ntmps34
 go_upto_region 1 with fail
 rw [<- hW1.out]
 have hwe : v.old = v.wire:=by rw [V.old_eq,<- ek.out]; rfl
 replace hwe:=Hd hwe
 have hput:=Cq v 10 t i r f a n cap d B W1 b s ⟨hp1.val.mono (At hbB.out),hp1.fine,hp1.ranged,hp1.count,(hp1.laid).below hb0.out hB,hp1.row.below hb0.out (Nat.le_refl _),hB2,hp1.size⟩
 have hrA : W1.rangeAt w.heap.size 0 [.int .i64 10,.string t,.int .i64 i,.float .f64 r,.bool f,.slice a n cap]:=Bt g0 g1 g2 g3 g4 g5
 replace hput:=Hd hput
 replace hrA:=Hd hrA
 replace hp1:=Hd hp1
 clear g1 g2 g3 g4 g5
 go_wp2_with (refine wpList_load_mid rfl 26 _ rfl w.heap.size 0 rfl _ _ hrA.out Tryz.underlying26 rfl Ac ?_)
 refine hput.out.mono ?_
 rintro e w3 ⟨b',rfl,hR3,hb3,n3⟩
 rw [<- hwe.out] at hR3
 have hb13:=hbB.out.trans hb3
 have nb3:=nb2.out.trans n3
 replace hR3:=Hd hR3
 replace hb13:=Hd hb13
 replace nb3:=Hd nb3
 clear hb3 n3 g0
 go_wp2_with fail
 go_ret
 exact ⟨_,rfl,hR3.out,hb13.out,nb3.out⟩
set_option maxRecDepth 100000 in
set_option maxHeartbeats 3200000 in
theorem old_11 {v : V} {t : ByteArray} {i : Int} {r : Nat} {f : Bool} {a : Option Addr} {n cap : Nat} {d : Int} {B : Nat} {w : World} {b : Value} {s : ByteArray} (hp : PutH v 11 t i r f a n cap d B w b s) :
   Calls Tryz.prog 34 #[b,.agg #[.int .i64 11,.string t,.int .i64 i,.float .f64 r,.bool f,.slice a n cap]] w (OldQ v B w s):=by
 have hp1:=hp
 obtain ⟨hv,hf,hr,hc,hL,hR,hB,hs⟩:=hp
 obtain ⟨ek,et,ei,er,ef,en⟩:=hv.len
 have hfe:=hf
 rw [V.fine_eq,Bool.and_eq_true,Bool.and_eq_true] at hfe
 have ok:=Ak hfe.1.1
 have hts:=ok.size
 rw [<- et] at hts
 have hra:=hr
 rw [V.ranged_eq,<- ei,<- er] at hra
 have hcp:=v.count_pos
 have hce0:=v.count_eq
 have hln:=V.length_le v.list
 rw [<- en] at hln
 have hn9 : n <= 100000:=by omega
 clear hce0 hln
 replace hL:=Hd hL
 replace hR:=Hd hR
 replace hv:=Hd hv
 replace hf:=Hd hf
 replace hr:=Hd hr
 replace ok:=Hd ok
 replace hfe:=Hd hfe
 replace hra:=Hd hra
 replace ek:=Hd ek
 replace et:=Hd et
 replace ei:=Hd ei
 replace er:=Hd er
 replace ef:=Hd ef
 replace en:=Hd en
 obtain ⟨W1,hW1⟩ : ∃ W1,W1 = w.alloc (.cells #[.int .i64 11,.string t,.int .i64 i,.float .f64 r,.bool f,.slice a n cap] 26):=⟨_,rfl⟩
 have hb0 : Below w.heap.size w W1:=by rw [hW1]; exact (Below.refl _ _).alloc (Nat.le_refl _) _
 have hcell : ∀ q u,#[.int .i64 11,.string t,.int .i64 i,.float .f64 r,.bool f,.slice a n cap][q]? = some u -> W1.cell? ⟨w.heap.size,q,none⟩ = some u:=fun q u h => by rw [hW1,World.cell?_alloc_new]; exact h
 have g0:=hcell 0 (.int .i64 11) rfl
 have g1:=hcell 1 (.string t) rfl
 have g2:=hcell 2 (.int .i64 i) rfl
 have g3:=hcell 3 (.float .f64 r) rfl
 have g4:=hcell 4 (.bool f) rfl
 have g5:=hcell 5 (.slice a n cap) rfl
 have hR2:=hR.out.below hb0 (Nat.le_refl _)
 have hL2:=hL.out.below hb0 hB
 have hB2 : B <= W1.heap.size:=Nat.le_trans hB hb0.size
 have hbB : Below B w W1:=hb0.mono hB
 have nb2 : NB w W1:=NB.of_below hb0
 have hbox : W1.heap[w.heap.size]? = some (.cells #[.int .i64 11,.string t,.int .i64 i,.float .f64 r,.bool f,.slice a n cap] 26):=by rw [hW1]; exact Al _ _
 clear hcell
 replace hb0:=Hd hb0
 replace hW1:=Hd hW1
 replace nb2:=Hd nb2
 replace hbox:=Hd hbox
 replace hR2:=Hd hR2
 replace hL2:=Hd hL2
 replace hbB:=Hd hbB
 go_enter Tryz.func34,Tryz.ntmps34
 go_upto_region 1 with fail
 rw [<- hW1.out]
 have hwe : v.old = v.wire:=by rw [V.old_eq,<- ek.out]; rfl
 replace hwe:=Hd hwe
 have hput:=Cq v 11 t i r f a n cap d B W1 b s ⟨hp1.val.mono (At hbB.out),hp1.fine,hp1.ranged,hp1.count,(hp1.laid).below hb0.out hB,hp1.row.below hb0.out (Nat.le_refl _),hB2,hp1.size⟩
 have hrA : W1.rangeAt w.heap.size 0 [.int .i64 11,.string t,.int .i64 i,.float .f64 r,.bool f,.slice a n cap]:=Bt g0 g1 g2 g3 g4 g5
 replace hput:=Hd hput
 replace hrA:=Hd hrA
 replace hp1:=Hd hp1
 clear g1 g2 g3 g4 g5
 go_wp2_with (refine wpList_load_mid rfl 26 _ rfl w.heap.size 0 rfl _ _ hrA.out Tryz.underlying26 rfl Ac ?_)
 refine hput.out.mono ?_
 rintro e w3 ⟨b',rfl,hR3,hb3,n3⟩
 rw [<- hwe.out] at hR3
 have hb13:=hbB.out.trans hb3
 have nb3:=nb2.out.trans n3
 replace hR3:=Hd hR3
 replace hb13:=Hd hb13
 replace nb3:=Hd nb3
 clear hb3 n3 g0
 go_wp2_with fail
 go_ret
 exact ⟨_,rfl,hR3.out,hb13.out,nb3.out⟩
set_option maxRecDepth 100000 in
set_option maxHeartbeats 3200000 in
theorem old_12 {v : V} {t : ByteArray} {i : Int} {r : Nat} {f : Bool} {a : Option Addr} {n cap : Nat} {d : Int} {B : Nat} {w : World} {b : Value} {s : ByteArray} (hp : PutH v 12 t i r f a n cap d B w b s) :
   Calls Tryz.prog 34 #[b,.agg #[.int .i64 12,.string t,.int .i64 i,.float .f64 r,.bool f,.slice a n cap]] w (OldQ v B w s):=by
 have hp1:=hp
 obtain ⟨hv,hf,hr,hc,hL,hR,hB,hs⟩:=hp
 obtain ⟨ek,et,ei,er,ef,en⟩:=hv.len
 have hfe:=hf
 rw [V.fine_eq,Bool.and_eq_true,Bool.and_eq_true] at hfe
 have ok:=Ak hfe.1.1
 have hts:=ok.size
 rw [<- et] at hts
 have hra:=hr
 rw [V.ranged_eq,<- ei,<- er] at hra
 have hcp:=v.count_pos
 have hce0:=v.count_eq
 have hln:=V.length_le v.list
 rw [<- en] at hln
 have hn9 : n <= 100000:=by omega
 clear hce0 hln
 replace hL:=Hd hL
 replace hR:=Hd hR
 replace hv:=Hd hv
 replace hf:=Hd hf
 replace hr:=Hd hr
 replace ok:=Hd ok
 replace hfe:=Hd hfe
 replace hra:=Hd hra
 replace ek:=Hd ek
 replace et:=Hd et
 replace ei:=Hd ei
 replace er:=Hd er
 replace ef:=Hd ef
 replace en:=Hd en
 obtain ⟨W1,hW1⟩ : ∃ W1,W1 = w.alloc (.cells #[.int .i64 12,.string t,.int .i64 i,.float .f64 r,.bool f,.slice a n cap] 26):=⟨_,rfl⟩
 have hb0 : Below w.heap.size w W1:=by rw [hW1]; exact (Below.refl _ _).alloc (Nat.le_refl _) _
 have hcell : ∀ q u,#[.int .i64 12,.string t,.int .i64 i,.float .f64 r,.bool f,.slice a n cap][q]? = some u -> W1.cell? ⟨w.heap.size,q,none⟩ = some u:=fun q u h => by rw [hW1,World.cell?_alloc_new]; exact h
 have g0:=hcell 0 (.int .i64 12) rfl
 have g1:=hcell 1 (.string t) rfl
 have g2:=hcell 2 (.int .i64 i) rfl
 have g3:=hcell 3 (.float .f64 r) rfl
 have g4:=hcell 4 (.bool f) rfl
 have g5:=hcell 5 (.slice a n cap) rfl
 have hR2:=hR.out.below hb0 (Nat.le_refl _)
 have hL2:=hL.out.below hb0 hB
 have hB2 : B <= W1.heap.size:=Nat.le_trans hB hb0.size
 have hbB : Below B w W1:=hb0.mono hB
 have nb2 : NB w W1:=NB.of_below hb0
 have hbox : W1.heap[w.heap.size]? = some (.cells #[.int .i64 12,.string t,.int .i64 i,.float .f64 r,.bool f,.slice a n cap] 26):=by rw [hW1]; exact Al _ _
 clear hcell
 replace hb0:=Hd hb0
 replace hW1:=Hd hW1
 replace nb2:=Hd nb2
 replace hbox:=Hd hbox
 replace hR2:=Hd hR2
 replace hL2:=Hd hL2
 replace hbB:=Hd hbB
 go_enter Tryz.func34,Tryz.ntmps34
 go_upto_region 1 with fail
 rw [<- hW1.out]
 have hwe : v.old = v.wire:=by rw [V.old_eq,<- ek.out]; rfl
 replace hwe:=Hd hwe
 have hput:=Cq v 12 t i r f a n cap d B W1 b s ⟨hp1.val.mono (At hbB.out),hp1.fine,hp1.ranged,hp1.count,(hp1.laid).below hb0.out hB,hp1.row.below hb0.out (Nat.le_refl _),hB2,hp1.size⟩
 have hrA : W1.rangeAt w.heap.size 0 [.int .i64 12,.string t,.int .i64 i,.float .f64 r,.bool f,.slice a n cap]:=Bt g0 g1 g2 g3 g4 g5
 replace hput:=Hd hput
 replace hrA:=Hd hrA
 replace hp1:=Hd hp1
 clear g1 g2 g3 g4 g5
 go_wp2_with (refine wpList_load_mid rfl 26 _ rfl w.heap.size 0 rfl _ _ hrA.out Tryz.underlying26 rfl Ac ?_)
 refine hput.out.mono ?_
 rintro e w3 ⟨b',rfl,hR3,hb3,n3⟩
 rw [<- hwe.out] at hR3
 have hb13:=hbB.out.trans hb3
 have nb3:=nb2.out.trans n3
 replace hR3:=Hd hR3
 replace hb13:=Hd hb13
 replace nb3:=Hd nb3
 clear hb3 n3 g0
 go_wp2_with fail
 go_ret
 exact ⟨_,rfl,hR3.out,hb13.out,nb3.out⟩
set_option maxRecDepth 100000 in
set_option maxHeartbeats 3200000 in
theorem old_13 {v : V} {t : ByteArray} {i : Int} {r : Nat} {f : Bool} {a : Option Addr} {n cap : Nat} {d : Int} {B : Nat} {w : World} {b : Value} {s : ByteArray} (hp : PutH v 13 t i r f a n cap d B w b s) :
   Calls Tryz.prog 34 #[b,.agg #[.int .i64 13,.string t,.int .i64 i,.float .f64 r,.bool f,.slice a n cap]] w (OldQ v B w s):=by
 have hp1:=hp
 obtain ⟨hv,hf,hr,hc,hL,hR,hB,hs⟩:=hp
 obtain ⟨ek,et,ei,er,ef,en⟩:=hv.len
 have hfe:=hf
 rw [V.fine_eq,Bool.and_eq_true,Bool.and_eq_true] at hfe
 have ok:=Ak hfe.1.1
 have hts:=ok.size
 rw [<- et] at hts
 have hra:=hr
 rw [V.ranged_eq,<- ei,<- er] at hra
 have hcp:=v.count_pos
 have hce0:=v.count_eq
 have hln:=V.length_le v.list
 rw [<- en] at hln
 have hn9 : n <= 100000:=by omega
 clear hce0 hln
 replace hL:=Hd hL
 replace hR:=Hd hR
 replace hv:=Hd hv
 replace hf:=Hd hf
 replace hr:=Hd hr
 replace ok:=Hd ok
 replace hfe:=Hd hfe
 replace hra:=Hd hra
 replace ek:=Hd ek
 replace et:=Hd et
 replace ei:=Hd ei
 replace er:=Hd er
 replace ef:=Hd ef
 replace en:=Hd en
 obtain ⟨W1,hW1⟩ : ∃ W1,W1 = w.alloc (.cells #[.int .i64 13,.string t,.int .i64 i,.float .f64 r,.bool f,.slice a n cap] 26):=⟨_,rfl⟩
 have hb0 : Below w.heap.size w W1:=by rw [hW1]; exact (Below.refl _ _).alloc (Nat.le_refl _) _
 have hcell : ∀ q u,#[.int .i64 13,.string t,.int .i64 i,.float .f64 r,.bool f,.slice a n cap][q]? = some u -> W1.cell? ⟨w.heap.size,q,none⟩ = some u:=fun q u h => by rw [hW1,World.cell?_alloc_new]; exact h
 have g0:=hcell 0 (.int .i64 13) rfl
 have g1:=hcell 1 (.string t) rfl
 have g2:=hcell 2 (.int .i64 i) rfl
 have g3:=hcell 3 (.float .f64 r) rfl
 have g4:=hcell 4 (.bool f) rfl
 have g5:=hcell 5 (.slice a n cap) rfl
 have hR2:=hR.out.below hb0 (Nat.le_refl _)
 have hL2:=hL.out.below hb0 hB
 have hB2 : B <= W1.heap.size:=Nat.le_trans hB hb0.size
 have hbB : Below B w W1:=hb0.mono hB
 have nb2 : NB w W1:=NB.of_below hb0
 have hbox : W1.heap[w.heap.size]? = some (.cells #[.int .i64 13,.string t,.int .i64 i,.float .f64 r,.bool f,.slice a n cap] 26):=by rw [hW1]; exact Al _ _
 clear hcell
 replace hb0:=Hd hb0
 replace hW1:=Hd hW1
 replace nb2:=Hd nb2
 replace hbox:=Hd hbox
 replace hR2:=Hd hR2
 replace hL2:=Hd hL2
 replace hbB:=Hd hbB
 go_enter Tryz.func34,Tryz.ntmps34
 go_upto_region 1 with fail
 rw [<- hW1.out]
 have hwe : v.old = v.wire:=by rw [V.old_eq,<- ek.out]; rfl
 replace hwe:=Hd hwe
 have hput:=Cq v 13 t i r f a n cap d B W1 b s ⟨hp1.val.mono (At hbB.out),hp1.fine,hp1.ranged,hp1.count,(hp1.laid).below hb0.out hB,hp1.row.below hb0.out (Nat.le_refl _),hB2,hp1.size⟩
 have hrA : W1.rangeAt w.heap.size 0 [.int .i64 13,.string t,.int .i64 i,.float .f64 r,.bool f,.slice a n cap]:=Bt g0 g1 g2 g3 g4 g5
 replace hput:=Hd hput
 replace hrA:=Hd hrA
 replace hp1:=Hd hp1
 clear g1 g2 g3 g4 g5
 go_wp2_with (refine wpList_load_mid rfl 26 _ rfl w.heap.size 0 rfl _ _ hrA.out Tryz.underlying26 rfl Ac ?_)
 refine hput.out.mono ?_
 rintro e w3 ⟨b',rfl,hR3,hb3,n3⟩
 rw [<- hwe.out] at hR3
 have hb13:=hbB.out.trans hb3
 have nb3:=nb2.out.trans n3
 replace hR3:=Hd hR3
 replace hb13:=Hd hb13
 replace nb3:=Hd nb3
 clear hb3 n3 g0
 go_wp2_with fail
 go_ret
 exact ⟨_,rfl,hR3.out,hb13.out,nb3.out⟩
set_option maxRecDepth 100000 in
set_option maxHeartbeats 3200000 in
theorem old_14 {v : V} {t : ByteArray} {i : Int} {r : Nat} {f : Bool} {a : Option Addr} {n cap : Nat} {d : Int} {B : Nat} {w : World} {b : Value} {s : ByteArray} (hp : PutH v 14 t i r f a n cap d B w b s) :
   Calls Tryz.prog 34 #[b,.agg #[.int .i64 14,.string t,.int .i64 i,.float .f64 r,.bool f,.slice a n cap]] w (OldQ v B w s):=by
 have hp1:=hp
 obtain ⟨hv,hf,hr,hc,hL,hR,hB,hs⟩:=hp
 obtain ⟨ek,et,ei,er,ef,en⟩:=hv.len
 have hfe:=hf
 rw [V.fine_eq,Bool.and_eq_true,Bool.and_eq_true] at hfe
 have ok:=Ak hfe.1.1
 have hts:=ok.size
 rw [<- et] at hts
 have hra:=hr
 rw [V.ranged_eq,<- ei,<- er] at hra
 have hcp:=v.count_pos
 have hce0:=v.count_eq
 have hln:=V.length_le v.list
 rw [<- en] at hln
 have hn9 : n <= 100000:=by omega
 clear hce0 hln
 replace hL:=Hd hL
 replace hR:=Hd hR
 replace hv:=Hd hv
 replace hf:=Hd hf
 replace hr:=Hd hr
 replace ok:=Hd ok
 replace hfe:=Hd hfe
 replace hra:=Hd hra
 replace ek:=Hd ek
 replace et:=Hd et
 replace ei:=Hd ei
 replace er:=Hd er
 replace ef:=Hd ef
 replace en:=Hd en
 obtain ⟨W1,hW1⟩ : ∃ W1,W1 = w.alloc (.cells #[.int .i64 14,.string t,.int .i64 i,.float .f64 r,.bool f,.slice a n cap] 26):=⟨_,rfl⟩
 have hb0 : Below w.heap.size w W1:=by rw [hW1]; exact (Below.refl _ _).alloc (Nat.le_refl _) _
 have hcell : ∀ q u,#[.int .i64 14,.string t,.int .i64 i,.float .f64 r,.bool f,.slice a n cap][q]? = some u -> W1.cell? ⟨w.heap.size,q,none⟩ = some u:=fun q u h => by rw [hW1,World.cell?_alloc_new]; exact h
 have g0:=hcell 0 (.int .i64 14) rfl
 have g1:=hcell 1 (.string t) rfl
 have g2:=hcell 2 (.int .i64 i) rfl
 have g3:=hcell 3 (.float .f64 r) rfl
 have g4:=hcell 4 (.bool f) rfl
 have g5:=hcell 5 (.slice a n cap) rfl
 have hR2:=hR.out.below hb0 (Nat.le_refl _)
 have hL2:=hL.out.below hb0 hB
 have hB2 : B <= W1.heap.size:=Nat.le_trans hB hb0.size
 have hbB : Below B w W1:=hb0.mono hB
 have nb2 : NB w W1:=NB.of_below hb0
 have hbox : W1.heap[w.heap.size]? = some (.cells #[.int .i64 14,.string t,.int .i64 i,.float .f64 r,.bool f,.slice a n cap] 26):=by rw [hW1]; exact Al _ _
 clear hcell
 replace hb0:=Hd hb0
 replace hW1:=Hd hW1
 replace nb2:=Hd nb2
 replace hbox:=Hd hbox
 replace hR2:=Hd hR2
 replace hL2:=Hd hL2
 replace hbB:=Hd hbB
 go_enter Tryz.func34,Tryz.ntmps34
 go_upto_region 1 with fail
 rw [<- hW1.out]
 have hwe : v.old = v.wire:=by rw [V.old_eq,<- ek.out]; rfl
 replace hwe:=Hd hwe
 have hput:=Cq v 14 t i r f a n cap d B W1 b s ⟨hp1.val.mono (At hbB.out),hp1.fine,hp1.ranged,hp1.count,(hp1.laid).below hb0.out hB,hp1.row.below hb0.out (Nat.le_refl _),hB2,hp1.size⟩
 have hrA : W1.rangeAt w.heap.size 0 [.int .i64 14,.string t,.int .i64 i,.float .f64 r,.bool f,.slice a n cap]:=Bt g0 g1 g2 g3 g4 g5
 replace hput:=Hd hput
 replace hrA:=Hd hrA
 replace hp1:=Hd hp1
 clear g1 g2 g3 g4 g5
 go_wp2_with (refine wpList_load_mid rfl 26 _ rfl w.heap.size 0 rfl _ _ hrA.out Tryz.underlying26 rfl Ac ?_)
 refine hput.out.mono ?_
 rintro e w3 ⟨b',rfl,hR3,hb3,n3⟩
 rw [<- hwe.out] at hR3
 have hb13:=hbB.out.trans hb3
 have nb3:=nb2.out.trans n3
 replace hR3:=Hd hR3
 replace hb13:=Hd hb13
 replace nb3:=Hd nb3
 clear hb3 n3 g0
 go_wp2_with fail
 go_ret
 exact ⟨_,rfl,hR3.out,hb13.out,nb3.out⟩
set_option maxRecDepth 100000 in
set_option maxHeartbeats 3200000 in
theorem old_5 {v : V} (ih : ∀ x ∈ v.list,∀ (k : Int) (t : ByteArray) (i : Int) (r : Nat) (f : Bool) (a : Option Addr) (n cap : Nat) (d : Int) (B : Nat) (w : World) (b : Value) (s : ByteArray),PutH x k t i r f a n cap d B w b s ->
      Calls Tryz.prog 34 #[b,.agg #[.int .i64 k,.string t,.int .i64 i,.float .f64 r,.bool f,.slice a n cap]] w (OldQ x B w s))
   {t : ByteArray} {i : Int} {r : Nat} {f : Bool} {a : Option Addr} {n cap : Nat} {d : Int} {B : Nat} {w : World} {b : Value} {s : ByteArray} (hp : PutH v 5 t i r f a n cap d B w b s) :
   Calls Tryz.prog 34 #[b,.agg #[.int .i64 5,.string t,.int .i64 i,.float .f64 r,.bool f,.slice a n cap]] w (OldQ v B w s):=by
 replace ih:=Hd ih
 obtain ⟨hv,hf,hr,hc,hL,hR,hB,hs⟩:=hp
 obtain ⟨ek,et,ei,er,ef,en⟩:=hv.len
 have hfe:=hf
 rw [V.fine_eq,Bool.and_eq_true,Bool.and_eq_true] at hfe
 have ok:=Ak hfe.1.1
 have hts:=ok.size
 rw [<- et] at hts
 have hra:=hr
 rw [V.ranged_eq,<- ei,<- er] at hra
 have hcp:=v.count_pos
 have hce0:=v.count_eq
 have hln:=V.length_le v.list
 rw [<- en] at hln
 have hn9 : n <= 100000:=by omega
 clear hce0 hln
 replace hL:=Hd hL
 replace hR:=Hd hR
 replace hv:=Hd hv
 replace hf:=Hd hf
 replace hr:=Hd hr
 replace ok:=Hd ok
 replace hfe:=Hd hfe
 replace hra:=Hd hra
 replace ek:=Hd ek
 replace et:=Hd et
 replace ei:=Hd ei
 replace er:=Hd er
 replace ef:=Hd ef
 replace en:=Hd en
 obtain ⟨W1,hW1⟩ : ∃ W1,W1 = w.alloc (.cells #[.int .i64 5,.string t,.int .i64 i,.float .f64 r,.bool f,.slice a n cap] 26):=⟨_,rfl⟩
 have hb0 : Below w.heap.size w W1:=by rw [hW1]; exact (Below.refl _ _).alloc (Nat.le_refl _) _
 have hcell : ∀ q u,#[.int .i64 5,.string t,.int .i64 i,.float .f64 r,.bool f,.slice a n cap][q]? = some u -> W1.cell? ⟨w.heap.size,q,none⟩ = some u:=fun q u h => by rw [hW1,World.cell?_alloc_new]; exact h
 have g0:=hcell 0 (.int .i64 5) rfl
 have g1:=hcell 1 (.string t) rfl
 have g2:=hcell 2 (.int .i64 i) rfl
 have g3:=hcell 3 (.float .f64 r) rfl
 have g4:=hcell 4 (.bool f) rfl
 have g5:=hcell 5 (.slice a n cap) rfl
 have hR2:=hR.out.below hb0 (Nat.le_refl _)
 have hL2:=hL.out.below hb0 hB
 have hB2 : B <= W1.heap.size:=Nat.le_trans hB hb0.size
 have hbB : Below B w W1:=hb0.mono hB
 have nb2 : NB w W1:=NB.of_below hb0
 have hbox : W1.heap[w.heap.size]? = some (.cells #[.int .i64 5,.string t,.int .i64 i,.float .f64 r,.bool f,.slice a n cap] 26):=by rw [hW1]; exact Al _ _
 clear hcell
 replace hb0:=Hd hb0
 replace hW1:=Hd hW1
 replace nb2:=Hd nb2
 replace hbox:=Hd hbox
 replace hR2:=Hd hR2
 replace hL2:=Hd hL2
 replace hbB:=Hd hbB
 go_enter Tryz.func34,Tryz.ntmps34
 go_upto_region 1 with fail
 rw [<- hW1.out]
 have hwe : (⟨v.old.toArray⟩ : ByteArray) = numB 42 ((n : Nat) : Int) ++ ⟨(V.oldL v.list).toArray⟩:=by
   rw [<- Eh,<- Dr];congr 1;rw [V.old_eq,<- ek.out,<- en.out]; rfl
 replace hwe:=Hd hwe
 go_wp2_with fail
 refine (Cm 42 ((n : Nat) : Int) (by omega) (by omega) hL2.out.nums hR2.out hB2 (by omega)).mono ?_
 rintro e w3 ⟨b3,rfl,hR3,hb3,n3⟩
 have hz3:=Ch 42 ((n : Nat) : Int) (by omega) (by omega)
 have hb03:=hbB.out.trans hb3
 have nb3:=nb2.out.trans n3
 have f5 : w3.cell? ⟨w.heap.size,5,none⟩ = some (.slice a n cap):=by rw [n3.cell hbox.out (by decide)]; exact g5
 have hB3 : B <= w3.heap.size:=Nat.le_trans hB2 hb3.size
 generalize numB 42 ((n : Nat) : Int) = T at *
 clear g0 g1 g2 g3 g4 g5 hb3 n3
 replace hR3:=Hd hR3
 replace hb03:=Hd hb03
 replace nb3:=Hd nb3
 go_wp2_with fail
 go_loopw [0,23] (fun s0 s23 wr => ∃ j : Nat,j <= n /\ s23 = .int .i64 j /\ Row B wr s0 (s ++ T ++ ⟨(V.oldL (v.list.take j)).toArray⟩) /\ Below B w wr /\ NB w wr) (fun _ s23 _ => n - (intOf s23).toNat)
 case atStart => exact ⟨0,Nat.zero_le _,rfl,by rw [List.take_zero,V.oldL]; rw [show (⟨([] : List UInt8).toArray⟩ : ByteArray) = ⟨#[]⟩ from rfl,A5]; exact hR3.out,hb03.out,nb3.out⟩
 case round =>
   obtain ⟨j,hj,rfl,hRj,hbj,nbj⟩:=hrel;clear hR3 hb03 nb3 f5;have hBj : B <= wr.heap.size:=by have:=hbj.size; omega
   by_cases hlt : j < n
   · have hlti : (j : Int) < (n : Int):=by omega
     have hvw:=hv.out.mono (At hbj);rw [show Ae 5 t i r f a n cap = Ae v.kind v.text v.int v.real v.flag a n cap by rw [<- ek.out,<- et.out,<- ei.out,<- er.out,<- ef.out]] at hvw;obtain ⟨x,bb,o,a',cap',hxj,hmem,rfl,hx,d0,d1,d2,d3,d4,d5⟩:=hvw.elem' hlt;replace d0:=Ar _ _ d0;replace d1:=Ar _ _ d1;replace d2:=Ar _ _ d2;replace d3:=Ar _ _ d3;replace d4:=Ar _ _ d4;replace d5:=Ar _ _ d5;have hts : v.list.take (j + 1) = v.list.take j ++ [x]:=by
       obtain ⟨h1,h2⟩:=List.getElem?_eq_some_iff.1 hxj;rw [List.take_succ_eq_append_getElem h1,h2]
     have hal : Below B wr (wr.alloc (.cells #[.int .i64 x.kind,.string x.text,.int .i64 x.int,.float .f64 x.real,.bool x.flag,.slice a' x.list.length cap'] 26)):=(Below.refl B wr).alloc hBj _;have hal2 : Below wr.heap.size wr (wr.alloc (.cells #[.int .i64 x.kind,.string x.text,.int .i64 x.int,.float .f64 x.real,.bool x.flag,.slice a' x.list.length cap'] 26)):=(Below.refl _ wr).alloc (Nat.le_refl _) _;have hxf:=A4 hfe.out.2 x hmem;have hxr:=V.rangedL_mem hra.out.2.2.2 x hmem;have hce:=v.count_eq;have hcx : V.countL (v.list.take j) + x.count <= V.countL v.list:=by
       have h1:=V.countL_take v.list (j + 1);rw [hts,V.countL_append] at h1;simp only [V.countL] at h1;omega
     have hwl:=oldL_len (v.list.take j) (d - 1) (V.fineL_take hfe.out.2 j) (C2 fun z hz => V.rangedL_mem hra.out.2.2.2 z (List.mem_of_mem_take hz)) (by omega);have hsz : (s ++ T ++ ⟨(V.oldL (v.list.take j)).toArray⟩).size + 5000 * x.count <= 1000000000000:=by
       rw [ByteArray.size_append,ByteArray.size_append];have e : (⟨(V.oldL (v.list.take j)).toArray⟩ : ByteArray).size = (V.oldL (v.list.take j)).length:=Aq _;omega
     have hold:=ih.out x hmem x.kind x.text x.int x.real x.flag a' x.list.length cap' (d - 1) B _ u0 _ ⟨hx.mono (At hal),hxf,hxr,by omega,(hL.out.below hbj (Nat.le_refl _)).below hal (Nat.le_refl _),hRj.below hal2 (Nat.le_refl _),Nat.le_trans hBj hal.size,hsz⟩;have nbal:=nbj.trans (NB.of_below hal2);have hbal:=hbj.trans hal;replace hold:=Hd hold;replace hts:=Hd hts;replace hal:=Hd hal;replace hbal:=Hd hbal;replace nbal:=Hd nbal;clear hvw hx hxj hmem hxf hxr hce hcx hwl hsz hal2 hRj hbj nbj;go_wp2_with fail
     refine hold.out.mono ?_;rintro e w5 ⟨b5,rfl,hR5,hb5,n5⟩;have hb6:=hbal.out.trans hb5;have nb6:=nbal.out.trans n5;clear hb5 n5 d0 d1 d2 d3 d4 d5;replace hR5:=Hd hR5;replace hb6:=Hd hb6;replace nb6:=Hd nb6;go_wp2_with fail
     go_roundw
     case rel =>
       refine ⟨j + 1,by omega,by go_num,?_,hb6.out,nb6.out⟩;rw [hts.out,V.oldL_snoc,Dr,<- ByteArray.append_assoc];exact hR5.out
     case measure => simp [intOf]; omega
   · have hlti : ¬ (j : Int) < (n : Int):=by omega
     have hj9 : v.list.take j = v.list:=List.take_of_length_le (by have:=en.out; omega);rw [hj9,ByteArray.append_assoc,<- hwe.out] at hRj;replace hRj:=Hd hRj;replace hbj:=Hd hbj;replace nbj:=Hd nbj;go_wp2_with fail
     go_ret;exact ⟨_,rfl,hRj.out,hbj.out,nbj.out⟩
theorem old_any (v : V) : ∀ (k : Int) (t : ByteArray) (i : Int) (r : Nat) (f : Bool) (a : Option Addr) (n cap : Nat) (d : Int) (B : Nat) (w : World) (b : Value) (s : ByteArray),PutH v k t i r f a n cap d B w b s ->
   Calls Tryz.prog 34 #[b,.agg #[.int .i64 k,.string t,.int .i64 i,.float .f64 r,.bool f,.slice a n cap]] w (OldQ v B w s):=by
 induction v using V.ind with
 | h v ih =>
 intro k t i r f a n cap d B w b s hp
 have hk : 1 <= k /\ k <= 14:=by
   have hfe:=hp.fine;rw [V.fine_eq,Bool.and_eq_true,Bool.and_eq_true] at hfe;rw [hp.val.len.1];exact (Ak hfe.1.1).kind
 rcases (by omega : k = 1 \/ k = 2 \/ k = 9 \/ k = 3 \/ k = 7 \/ k = 8 \/ k = 6 \/ k = 4 \/ k = 10 \/ k = 11 \/ k = 12 \/ k = 5 \/ k = 13 \/ k = 14) with rfl | rfl | rfl | rfl | rfl | rfl | rfl | rfl | rfl | rfl | rfl | rfl | rfl | rfl
 · exact old_1 hp
 · exact old_2 hp
 · exact old_9 hp
 · exact old_3 hp
 · exact old_7 hp
 · exact old_8 hp
 · exact old_6 hp
 · exact old_4 hp
 · exact old_10 hp
 · exact old_11 hp
 · exact old_12 hp
 · exact old_5 ih hp
 · exact old_13 hp
 · exact old_14 hp
end Go.Proofs.YtagkgfniihiinaaGreatDoor
