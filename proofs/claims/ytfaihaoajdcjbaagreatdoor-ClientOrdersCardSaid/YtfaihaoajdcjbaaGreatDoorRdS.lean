/- The reader: a value that is a line. -/
import Derived.Test.YtfaihaoajdcjbaaGreatDoorRdG
import Derived.Test.YtfaihaoajdcjbaaGreatDoorJ29
set_option linter.all false
namespace Go.Proofs.YtfaihaoajdcjbaaGreatDoor
open Go.RowKit
def Ay (k:Int) (t:ByteArray) (i:Int) (r:Nat) (f:Bool):V:=.mk k t i r f []
theorem leaf_check (k:Int) (t:ByteArray) (i:Int) (r:Nat) (f:Bool) (hk:As k=false):Dw (Ay k t i r f)=if okV (Ay k t i r f)=true then 0 else 31:=by
 unfold Dw Ay;have h:V.fine (.mk k t i r f []) 8=okV (.mk k t i r f []):=by simp [V.fine,V.fineL,hk]
 rw [h];simp [V.count,V.countL]
theorem leaf_any (k:Int) (t:ByteArray) (i:Int) (r:Nat) (f:Bool) (hk:As k=false) (ht:t.size<=9223372036854775807) (w:World) :
   Calls Tryz.prog 105 #[.agg #[.int .i64 k,.string t,.int .i64 i,.float .f64 r,.bool f,.slice none 0 0]] w fun e w' => e=.returned (.int .i64 (if okV (Ay k t i r f)=true then 0 else 31))/\Below w.heap.size w w' := by
 rw [<-leaf_check k t i r f hk];exact check_any (Ay k t i r f) none 0 w (RV.leaf _ _ _ _ _ _ _ _) ((V.sized_eq _).2 ⟨ht,trivial⟩) (by simp [Ay,V.count,V.countL])
def De (o:Option V) (w:World) (e:Ending) (w' : World):Prop:=
 (match o with
   | some v=>if okV v=true then e=.returned (.agg #[.int .i64 v.kind,.string v.text,.int .i64 v.int,.float .f64 v.real,.bool v.flag,.slice none 0 0]) else e=Bf 51
   | none=>e=Bf 51)/\Below w.heap.size w w'
theorem shortQ_ok {v:V} {w w' : World} {e:Ending} (ok:okV v=true) (h:e=.returned (.agg #[.int .i64 v.kind,.string v.text,.int .i64 v.int,.float .f64 v.real,.bool v.flag,.slice none 0 0])) (hb:Below w.heap.size w w'):De (some v) w e w' := by
 unfold De;dsimp only;rw [if_pos ok];exact ⟨h,hb⟩
theorem shortQ_no {v:V} {w w' : World} {e:Ending} (ok:¬okV v=true) (h:e=Bf 51) (hb:Below w.heap.size w w'):De (some v) w e w' := by
 unfold De;dsimp only;rw [if_neg ok];exact ⟨h,hb⟩
theorem shortQ_none {w w' : World} {e:Ending} (h:e=Bf 51) (hb:Below w.heap.size w w'):De none w e w' := ⟨h,hb⟩
structure Two (w W:World) (k:Int) (t:ByteArray) (i:Int) (r:Nat) (f:Bool):Prop where
 zero:W.rangeAt w.heap.size 0 [.int .i64 0,.string ⟨#[]⟩,.int .i64 0,.float .f64 0,.bool false,.slice none 0 0]
 full:W.rangeAt (w.heap.size+1) 0 [.int .i64 k,.string t,.int .i64 i,.float .f64 r,.bool f,.slice none 0 0]
 blk:Blk W w.heap.size
 blk1:Blk W (w.heap.size+1)
 below:Below w.heap.size w W
theorem Two.start (w:World) (k:Int) (t:ByteArray) (i:Int) (r:Nat) (f:Bool):Two w ((w.alloc (.cells #[.int .i64 0,.string ⟨#[]⟩,.int .i64 0,.float .f64 0,.bool false,.slice none 0 0] 40)).alloc (.cells #[.int .i64 k,.string t,.int .i64 i,.float .f64 r,.bool f,.slice none 0 0] 40)) k t i r f:=by
 have hs:(w.alloc (.cells #[.int .i64 0,.string ⟨#[]⟩,.int .i64 0,.float .f64 0,.bool false,.slice none 0 0] 40)).heap.size=w.heap.size+1:=by simp
 refine ⟨?_,?_,?_,?_,((Below.refl _ _).alloc (Nat.le_refl _) _).alloc (by simp) _⟩
 · intro q x hq
   rw [Nat.zero_add,World.cell?_alloc_past _ _ _ (by simp),World.cell?_alloc_new];simpa using hq
 · intro q x hq
   rw [Nat.zero_add,<-hs,World.cell?_alloc_new];simpa using hq
 · exact (Blk.new w _ _).of_block (by rw [Below.heap_alloc _ _ _ (by simp)])
 · rw [<-hs];exact Blk.new _ _ _
theorem Two.move {w W W' : World} {k:Int} {t:ByteArray} {i:Int} {r:Nat} {f:Bool} (h:Two w W k t i r f) (hb:Below W.heap.size W W'):Two w W' k t i r f:=
 ⟨fun q x hq=>by rw [hb.cell (World.block_lt_of_cell? _ _ (h.zero q x hq))];exact h.zero q x hq,fun q x hq=>by rw [hb.cell (World.block_lt_of_cell? _ _ (h.full q x hq))];exact h.full q x hq,
   h.blk.of_block (hb.block _ h.blk.lt),h.blk1.of_block (hb.block _ h.blk1.lt),h.below.trans (hb.mono h.below.size)⟩
theorem Two.set1 {w W:World} {k:Int} {t:ByteArray} {i:Int} {r:Nat} {f:Bool} (h:Two w W k t i r f) (n:ByteArray):Two w (W.setCell ⟨w.heap.size+1,1,none⟩ (.string n)) k n i r f:=by
 have g:=fun q x (hq:([.int .i64 k,.string t,.int .i64 i,.float .f64 r,.bool f,.slice none 0 0]:List Value)[q]?=some x)=>h.full q x hq;refine ⟨fun q x hq=>?_,Cj ?_ (Af (g 1 _ rfl)) ?_ ?_ ?_ ?_,h.blk.setCell _ _,h.blk1.setCell _ _,h.below.trans ((Fr.setCell (S:=fun k=>k=w.heap.size+1) (Fr.refl _ _) (fun _=>rfl) _).below h.below.size (fun i hi e=>by omega))⟩
 · rw [Ab (by simp)];exact h.zero q x hq
 · rw [Ab (by simp)];exact g 0 _ rfl
 · rw [Ab (by simp)];exact g 2 _ rfl
 · rw [Ab (by simp)];exact g 3 _ rfl
 · rw [Ab (by simp)];exact g 4 _ rfl
 · rw [Ab (by simp)];exact g 5 _ rfl
theorem Two.set2 {w W:World} {k:Int} {t:ByteArray} {i:Int} {r:Nat} {f:Bool} (h:Two w W k t i r f) (n:Int):Two w (W.setCell ⟨w.heap.size+1,2,none⟩ (.int .i64 n)) k t n r f:=by
 have g:=fun q x (hq:([.int .i64 k,.string t,.int .i64 i,.float .f64 r,.bool f,.slice none 0 0]:List Value)[q]?=some x)=>h.full q x hq;refine ⟨fun q x hq=>?_,Cj ?_ ?_ (Af (g 2 _ rfl)) ?_ ?_ ?_,h.blk.setCell _ _,h.blk1.setCell _ _,h.below.trans ((Fr.setCell (S:=fun k=>k=w.heap.size+1) (Fr.refl _ _) (fun _=>rfl) _).below h.below.size (fun i hi e=>by omega))⟩
 · rw [Ab (by simp)];exact h.zero q x hq
 · rw [Ab (by simp)];exact g 0 _ rfl
 · rw [Ab (by simp)];exact g 1 _ rfl
 · rw [Ab (by simp)];exact g 3 _ rfl
 · rw [Ab (by simp)];exact g 4 _ rfl
 · rw [Ab (by simp)];exact g 5 _ rfl
theorem Two.set3 {w W:World} {k:Int} {t:ByteArray} {i:Int} {r:Nat} {f:Bool} (h:Two w W k t i r f) (n:Nat):Two w (W.setCell ⟨w.heap.size+1,3,none⟩ (.float .f64 n)) k t i n f:=by
 have g:=fun q x (hq:([.int .i64 k,.string t,.int .i64 i,.float .f64 r,.bool f,.slice none 0 0]:List Value)[q]?=some x)=>h.full q x hq;refine ⟨fun q x hq=>?_,Cj ?_ ?_ ?_ (Af (g 3 _ rfl)) ?_ ?_,h.blk.setCell _ _,h.blk1.setCell _ _,h.below.trans ((Fr.setCell (S:=fun k=>k=w.heap.size+1) (Fr.refl _ _) (fun _=>rfl) _).below h.below.size (fun i hi e=>by omega))⟩
 · rw [Ab (by simp)];exact h.zero q x hq
 · rw [Ab (by simp)];exact g 0 _ rfl
 · rw [Ab (by simp)];exact g 1 _ rfl
 · rw [Ab (by simp)];exact g 2 _ rfl
 · rw [Ab (by simp)];exact g 4 _ rfl
 · rw [Ab (by simp)];exact g 5 _ rfl
theorem Two.set4 {w W:World} {k:Int} {t:ByteArray} {i:Int} {r:Nat} {f:Bool} (h:Two w W k t i r f) (n:Bool):Two w (W.setCell ⟨w.heap.size+1,4,none⟩ (.bool n)) k t i r n:=by
 have g:=fun q x (hq:([.int .i64 k,.string t,.int .i64 i,.float .f64 r,.bool f,.slice none 0 0]:List Value)[q]?=some x)=>h.full q x hq;refine ⟨fun q x hq=>?_,Cj ?_ ?_ ?_ ?_ (Af (g 4 _ rfl)) ?_,h.blk.setCell _ _,h.blk1.setCell _ _,h.below.trans ((Fr.setCell (S:=fun k=>k=w.heap.size+1) (Fr.refl _ _) (fun _=>rfl) _).below h.below.size (fun i hi e=>by omega))⟩
 · rw [Ab (by simp)];exact h.zero q x hq
 · rw [Ab (by simp)];exact g 0 _ rfl
 · rw [Ab (by simp)];exact g 1 _ rfl
 · rw [Ab (by simp)];exact g 2 _ rfl
 · rw [Ab (by simp)];exact g 3 _ rfl
 · rw [Ab (by simp)];exact g 5 _ rfl
def RealQ (o:Option Nat) (w:World) (e:Ending) (w' : World):Prop:=
 (match o with
   | some r=>e=.returned (.tuple #[.float .f64 r,.int .i64 0])
   | none=>∃x,e=.returned (.tuple #[.float .f64 x,.int .i64 21]))/\Below w.heap.size w w'
def Cc (ro:Option Nat) (k:Nat) (t:ByteArray):Option V:=
 if k=1\/k=2\/k=9 then some (Ay k t 0 0 false)
 else if k=3 then (wP t.data.toList).map fun n=>Ay 3 ⟨#[]⟩ n 0 false
 else if k=7 then ro.map fun r=>Ay 7 ⟨#[]⟩ 0 r false
 else if k=8 then (if t=⟨#[116]⟩ then some (Ay 8 ⟨#[]⟩ 0 0 true) else if t=⟨#[102]⟩ then some (Ay 8 ⟨#[]⟩ 0 0 false) else none)
 else if t=⟨#[]⟩ then some (Ay 6 ⟨#[]⟩ 0 0 false) else none
set_option maxRecDepth 100000 in
set_option maxHeartbeats 6400000 in
theorem short_any {w:World} {k:Nat} {t:ByteArray} {o:Option Nat} (hk:k=1\/k=2\/k=9\/k=3\/k=7\/k=8\/k=6) (ht:t.size<=1000000) (hN:Nums w) (hp:k=7->∀W,Below w.heap.size w W->Calls Tryz.prog 125 #[.string t] W (RealQ o W)) :
   Calls Tryz.prog 107 #[.int .i64 (k:Int),.string t] w (De (Cc o k t) w):=by
 have h2:=Two.start w (k:Int) ⟨#[]⟩ 0 0 false;obtain ⟨W2,hW2⟩:∃W,W=(w.alloc (.cells #[.int .i64 0,.string ⟨#[]⟩,.int .i64 0,.float .f64 0,.bool false,.slice none 0 0] 40)).alloc (.cells #[.int .i64 (k:Int),.string ⟨#[]⟩,.int .i64 0,.float .f64 0,.bool false,.slice none 0 0] 40):=⟨_,rfl⟩;rw [<-hW2] at h2;have hkl:As (k:Int)=false:=by unfold As;rw [decide_eq_false_iff_not];omega
 obtain ⟨S,hS⟩:∃S,S=Cc o k t:=⟨_,rfl⟩;rw [<-hS];replace hW2:=Hd hW2;replace h2:=Hd h2;replace hS:=Hd hS;replace hp:=Hd hp;replace hk:=Hd hk;replace hN:=Hd hN
 go_enter Tryz.func107,Tryz.ntmps107
 go_upto_region 2 with fail
 rw [<-hW2.out];clear hW2
 go_upto_block 0 with fail
 go_cut [6] from 11 to 44 (fun s5 wx=>∃(T:ByteArray) (I:Int) (R:Nat) (F:Bool) (E:Int),s5=.int .i64 E/\Two w wx (k:Int) T I R F/\((E=0/\S=some (Ay (k:Int) T I R F)/\T.size<=1000000)\/(E≠0/\S=none)))
 case first=>
   have h2:=h2.out;rcases hk.out with rfl | rfl | rfl | rfl | rfl | rfl | rfl
   · have z:=h2.blk1.frz 1 none
     have y0:=h2.full 0 _ rfl;have y1:=h2.full 1 _ rfl;have y2:=h2.full 2 _ rfl;have y3:=h2.full 3 _ rfl;have y4:=h2.full 4 _ rfl;have y5:=h2.full 5 _ rfl;rw [Nat.zero_add] at y0 y1 y2 y3 y4 y5;have h4:=h2.set1 t;have c0:=h4.full 0 _ rfl;have c1:=h4.full 1 _ rfl;have c2:=h4.full 2 _ rfl;have c3:=h4.full 3 _ rfl;have c4:=h4.full 4 _ rfl;have c5:=h4.full 5 _ rfl;rw [Nat.zero_add] at c0 c1 c2 c3 c4 c5;replace h4:=Hd h4;clear h2;go_wp2_with fail
     go_meet
     exact ⟨t,0,0,false,0,rfl,h4.out,.inl ⟨rfl,hS.out,ht⟩⟩
   · have z:=h2.blk1.frz 1 none
     have y0:=h2.full 0 _ rfl;have y1:=h2.full 1 _ rfl;have y2:=h2.full 2 _ rfl;have y3:=h2.full 3 _ rfl;have y4:=h2.full 4 _ rfl;have y5:=h2.full 5 _ rfl;rw [Nat.zero_add] at y0 y1 y2 y3 y4 y5;have h4:=h2.set1 t;have c0:=h4.full 0 _ rfl;have c1:=h4.full 1 _ rfl;have c2:=h4.full 2 _ rfl;have c3:=h4.full 3 _ rfl;have c4:=h4.full 4 _ rfl;have c5:=h4.full 5 _ rfl;rw [Nat.zero_add] at c0 c1 c2 c3 c4 c5;replace h4:=Hd h4;clear h2;go_wp2_with fail
     go_meet
     exact ⟨t,0,0,false,0,rfl,h4.out,.inl ⟨rfl,hS.out,ht⟩⟩
   · have z:=h2.blk1.frz 1 none
     have y0:=h2.full 0 _ rfl;have y1:=h2.full 1 _ rfl;have y2:=h2.full 2 _ rfl;have y3:=h2.full 3 _ rfl;have y4:=h2.full 4 _ rfl;have y5:=h2.full 5 _ rfl;rw [Nat.zero_add] at y0 y1 y2 y3 y4 y5;have h4:=h2.set1 t;have c0:=h4.full 0 _ rfl;have c1:=h4.full 1 _ rfl;have c2:=h4.full 2 _ rfl;have c3:=h4.full 3 _ rfl;have c4:=h4.full 4 _ rfl;have c5:=h4.full 5 _ rfl;rw [Nat.zero_add] at c0 c1 c2 c3 c4 c5;replace h4:=Hd h4;clear h2;go_wp2_with fail
     go_meet
     exact ⟨t,0,0,false,0,rfl,h4.out,.inl ⟨rfl,hS.out,ht⟩⟩
   · have hp2:=Dt t (by omega) W2 (hN.out.below h2.below)
     have hSo:S=(wP t.data.toList).map fun n=>Ay 3 ⟨#[]⟩ n 0 false:=hS.out;cases hw:wP t.data.toList with
     | none=>
       rw [hw] at hp2 hSo;replace hp2:Calls Tryz.prog 123 #[.string t] W2 (fun e w' => e=.returned (.tuple #[.int .i64 0,.int .i64 11])/\Below W2.heap.size W2 w'):=hp2;replace hp2:=Hd hp2;replace h2:=Hd h2;replace hSo:=Hd hSo;go_wp2_with fail
       refine hp2.out.mono ?_;rintro e w3 ⟨rfl,hb⟩;have h2:=h2.out.move hb;clear hb hp2;have z:=h2.blk1.frz 2 none;have y0:=h2.full 0 _ rfl;have y1:=h2.full 1 _ rfl;have y2:=h2.full 2 _ rfl;have y3:=h2.full 3 _ rfl;have y4:=h2.full 4 _ rfl;have y5:=h2.full 5 _ rfl;rw [Nat.zero_add] at y0 y1 y2 y3 y4 y5;have h4:=h2.set2 0;have c0:=h4.full 0 _ rfl;have c1:=h4.full 1 _ rfl;have c2:=h4.full 2 _ rfl;have c3:=h4.full 3 _ rfl;have c4:=h4.full 4 _ rfl;have c5:=h4.full 5 _ rfl;rw [Nat.zero_add] at c0 c1 c2 c3 c4 c5;replace h4:=Hd h4;clear h2;go_wp2_with fail
       go_meet
       exact ⟨⟨#[]⟩,0,0,false,11,rfl,h4.out,.inr ⟨by decide,hSo.out⟩⟩
     | some n=>
       rw [hw] at hp2 hSo;replace hp2:Calls Tryz.prog 123 #[.string t] W2 (fun e w' => e=.returned (.tuple #[.int .i64 n,.int .i64 0])/\Below W2.heap.size W2 w'):=hp2;replace hp2:=Hd hp2;replace h2:=Hd h2;replace hSo:=Hd hSo;go_wp2_with fail
       refine hp2.out.mono ?_;rintro e w3 ⟨rfl,hb⟩;have h2:=h2.out.move hb;clear hb hp2;have z:=h2.blk1.frz 2 none;have y0:=h2.full 0 _ rfl;have y1:=h2.full 1 _ rfl;have y2:=h2.full 2 _ rfl;have y3:=h2.full 3 _ rfl;have y4:=h2.full 4 _ rfl;have y5:=h2.full 5 _ rfl;rw [Nat.zero_add] at y0 y1 y2 y3 y4 y5;have h4:=h2.set2 n;have c0:=h4.full 0 _ rfl;have c1:=h4.full 1 _ rfl;have c2:=h4.full 2 _ rfl;have c3:=h4.full 3 _ rfl;have c4:=h4.full 4 _ rfl;have c5:=h4.full 5 _ rfl;rw [Nat.zero_add] at c0 c1 c2 c3 c4 c5;replace h4:=Hd h4;clear h2;go_wp2_with fail
       go_meet
       exact ⟨⟨#[]⟩,n,0,false,0,rfl,h4.out,.inl ⟨rfl,hSo.out,by decide⟩⟩
   · have hp2:=hp.out rfl W2 h2.below
     have hSo:S=o.map fun r=>Ay 7 ⟨#[]⟩ 0 r false:=hS.out;unfold RealQ at hp2;cases o with
     | none=>
       replace hp2:=Hd hp2;replace h2:=Hd h2;replace hSo:=Hd hSo;go_wp2_with fail
       refine hp2.out.mono ?_;rintro e w3 ⟨⟨x,rfl⟩,hb⟩;have h2:=h2.out.move hb;clear hb hp2;have z:=h2.blk1.frz 3 none;have y0:=h2.full 0 _ rfl;have y1:=h2.full 1 _ rfl;have y2:=h2.full 2 _ rfl;have y3:=h2.full 3 _ rfl;have y4:=h2.full 4 _ rfl;have y5:=h2.full 5 _ rfl;rw [Nat.zero_add] at y0 y1 y2 y3 y4 y5;have h4:=h2.set3 x;have c0:=h4.full 0 _ rfl;have c1:=h4.full 1 _ rfl;have c2:=h4.full 2 _ rfl;have c3:=h4.full 3 _ rfl;have c4:=h4.full 4 _ rfl;have c5:=h4.full 5 _ rfl;rw [Nat.zero_add] at c0 c1 c2 c3 c4 c5;replace h4:=Hd h4;clear h2;go_wp2_with fail
       go_meet
       exact ⟨⟨#[]⟩,0,x,false,21,rfl,h4.out,.inr ⟨by decide,hSo.out⟩⟩
     | some r=>
       replace hp2:=Hd hp2;replace h2:=Hd h2;replace hSo:=Hd hSo;go_wp2_with fail
       refine hp2.out.mono ?_;rintro e w3 ⟨rfl,hb⟩;have h2:=h2.out.move hb;clear hb hp2;have z:=h2.blk1.frz 3 none;have y0:=h2.full 0 _ rfl;have y1:=h2.full 1 _ rfl;have y2:=h2.full 2 _ rfl;have y3:=h2.full 3 _ rfl;have y4:=h2.full 4 _ rfl;have y5:=h2.full 5 _ rfl;rw [Nat.zero_add] at y0 y1 y2 y3 y4 y5;have h4:=h2.set3 r;have c0:=h4.full 0 _ rfl;have c1:=h4.full 1 _ rfl;have c2:=h4.full 2 _ rfl;have c3:=h4.full 3 _ rfl;have c4:=h4.full 4 _ rfl;have c5:=h4.full 5 _ rfl;rw [Nat.zero_add] at c0 c1 c2 c3 c4 c5;replace h4:=Hd h4;clear h2;go_wp2_with fail
       go_meet
       exact ⟨⟨#[]⟩,0,r,false,0,rfl,h4.out,.inl ⟨rfl,hSo.out,by decide⟩⟩
   · have hSo:S=(if t=⟨#[116]⟩ then some (Ay 8 ⟨#[]⟩ 0 0 true) else if t=⟨#[102]⟩ then some (Ay 8 ⟨#[]⟩ 0 0 false) else none):=hS.out
     by_cases h1:t=⟨#[116]⟩
     · rw [if_pos h1] at hSo
       subst h1;replace hSo:=Hd hSo;have z:=h2.blk1.frz 4 none;have y0:=h2.full 0 _ rfl;have y1:=h2.full 1 _ rfl;have y2:=h2.full 2 _ rfl;have y3:=h2.full 3 _ rfl;have y4:=h2.full 4 _ rfl;have y5:=h2.full 5 _ rfl;rw [Nat.zero_add] at y0 y1 y2 y3 y4 y5;have h4:=h2.set4 true;have c0:=h4.full 0 _ rfl;have c1:=h4.full 1 _ rfl;have c2:=h4.full 2 _ rfl;have c3:=h4.full 3 _ rfl;have c4:=h4.full 4 _ rfl;have c5:=h4.full 5 _ rfl;rw [Nat.zero_add] at c0 c1 c2 c3 c4 c5;replace h4:=Hd h4;clear h2;go_wp2_with fail
       go_meet
       exact ⟨⟨#[]⟩,0,0,true,0,rfl,h4.out,.inl ⟨rfl,hSo.out,by decide⟩⟩
     · rw [if_neg h1] at hSo
       have j1:(t.toList == [116])=false:=beq_eq_false_iff_ne.2 fun e=>h1 (by rw [ByteArray.toList_eq] at e;exact ByteArray.ext (Array.toList_inj.1 e));have j3:(t.toList != [116])=true:=by simp [bne,j1]
       by_cases h3:t=⟨#[102]⟩
       · rw [if_pos h3] at hSo
         subst h3;clear j1 j3;replace h1:=Hd h1;replace hSo:=Hd hSo;have z:=h2.blk1.frz 4 none;have y0:=h2.full 0 _ rfl;have y1:=h2.full 1 _ rfl;have y2:=h2.full 2 _ rfl;have y3:=h2.full 3 _ rfl;have y4:=h2.full 4 _ rfl;have y5:=h2.full 5 _ rfl;rw [Nat.zero_add] at y0 y1 y2 y3 y4 y5;have h4:=h2.set4 false;have c0:=h4.full 0 _ rfl;have c1:=h4.full 1 _ rfl;have c2:=h4.full 2 _ rfl;have c3:=h4.full 3 _ rfl;have c4:=h4.full 4 _ rfl;have c5:=h4.full 5 _ rfl;rw [Nat.zero_add] at c0 c1 c2 c3 c4 c5;replace h4:=Hd h4;clear h2;go_wp2_with fail
         go_meet
         exact ⟨⟨#[]⟩,0,0,false,0,rfl,h4.out,.inl ⟨rfl,hSo.out,by decide⟩⟩
       · rw [if_neg h3] at hSo
         have j2:(t.toList == [102])=false:=beq_eq_false_iff_ne.2 fun e=>h3 (by rw [ByteArray.toList_eq] at e;exact ByteArray.ext (Array.toList_inj.1 e));have j4:(t.toList != [102])=true:=by simp [bne,j2]
         replace h1:=Hd h1;replace h3:=Hd h3;replace hSo:=Hd hSo;have z:=h2.blk1.frz 4 none;have y0:=h2.full 0 _ rfl;have y1:=h2.full 1 _ rfl;have y2:=h2.full 2 _ rfl;have y3:=h2.full 3 _ rfl;have y4:=h2.full 4 _ rfl;have y5:=h2.full 5 _ rfl;rw [Nat.zero_add] at y0 y1 y2 y3 y4 y5;have h4:=h2.set4 false;have c0:=h4.full 0 _ rfl;have c1:=h4.full 1 _ rfl;have c2:=h4.full 2 _ rfl;have c3:=h4.full 3 _ rfl;have c4:=h4.full 4 _ rfl;have c5:=h4.full 5 _ rfl;rw [Nat.zero_add] at c0 c1 c2 c3 c4 c5;replace h4:=Hd h4;clear h2;go_wp2_with fail
         go_meet
         exact ⟨⟨#[]⟩,0,0,false,51,rfl,h4.out,.inr ⟨by decide,hSo.out⟩⟩
   · have hSo:S=(if t=⟨#[]⟩ then some (Ay 6 ⟨#[]⟩ 0 0 false) else none):=hS.out
     have h4:=Hd (h2);replace h2:=Hd h2;by_cases h1:t=⟨#[]⟩
     · rw [if_pos h1] at hSo
       subst h1;replace hSo:=Hd hSo;go_wp2_with fail
       go_meet
       exact ⟨⟨#[]⟩,0,0,false,0,rfl,h4.out,.inl ⟨rfl,hSo.out,by decide⟩⟩
     · rw [if_neg h1] at hSo
       have j0:¬t.toList=[]:=fun e=>h1 (by rw [ByteArray.toList_eq] at e;exact ByteArray.ext (Array.toList_inj.1 e));have j1:(t.toList == [])=false:=beq_eq_false_iff_ne.2 j0;have j3:(t.toList != [])=true:=by simp [bne,j1]
       have j4:t.toList.isEmpty=false:=by cases hh:t.toList.isEmpty with | false=>rfl | true=>exact absurd (List.isEmpty_iff.1 hh) j0
       replace h1:=Hd h1;replace hSo:=Hd hSo;go_wp2_with fail
       go_meet
       exact ⟨⟨#[]⟩,0,0,false,51,rfl,h4.out,.inr ⟨by decide,hSo.out⟩⟩
 obtain ⟨T,I,R,F,E,rfl,h4,hE⟩:=hcut
 rename World=>w4
 clear h2 hp hk hN;rcases hE with ⟨rfl,hSo,hT⟩ | ⟨hE,hSo⟩
 · have hck:=leaf_any (k:Int) T I R F hkl (by omega)
   have c0:=h4.full 0 _ rfl;have c1:=h4.full 1 _ rfl;have c2:=h4.full 2 _ rfl;have c3:=h4.full 3 _ rfl;have c4:=h4.full 4 _ rfl;have c5:=h4.full 5 _ rfl;rw [Nat.zero_add] at c0 c1 c2 c3 c4 c5;replace h4:=Hd h4;replace hSo:=Hd hSo;by_cases ok:okV (Ay (k:Int) T I R F)=true
   · rw [if_pos ok] at hck
     replace hck:=Hd hck;replace ok:=Hd ok;go_wp2_with fail
     refine (hck.out _).mono ?_;rintro e w5 ⟨rfl,hb⟩;have h3:=h4.out.move hb;clear hb c0 c1 c2 c3 c4 c5 h4;obtain ⟨w3,hw3⟩:∃w3,w3=w5:=⟨_,rfl⟩;rw [<-hw3] at h3 ⊢;replace hw3:=Hd hw3;have hrR:(w3.setCells w.heap.size 0 [.int .i64 (k:Int),.string T,.int .i64 I,.float .f64 R,.bool F,.slice none 0 0]).rangeAt w.heap.size 0 [.int .i64 (k:Int),.string T,.int .i64 I,.float .f64 R,.bool F,.slice none 0 0]:=
       World.rangeAt_setCells_same _ _ _ _ (At (n:=6) h3.zero h3.blk rfl)
     have htC:=Hd (At (n:=6) h3.zero h3.blk rfl);have hfu:=Hd (h3.full);have hbl:Below w.heap.size w (w3.setCells w.heap.size 0 [.int .i64 (k:Int),.string T,.int .i64 I,.float .f64 R,.bool F,.slice none 0 0]):=
       h3.below.trans ((Fr.setCells (S:=fun k=>k=w.heap.size) (fun _=>rfl) _ _ _ (Fr.refl _ w3)).below h3.below.size (fun i hi h=>by omega))
     replace hrR:=Hd hrR;replace hbl:=Hd hbl;replace h3:=Hd h3
     go_wp2_with (first
       | (refine wpList_load_mid rfl 40 _ rfl (w.heap.size+1) 0 rfl _ _ hfu.out Tryz.underlying40 rfl Ai ?_)
       | (refine wpList_store_mid rfl 40 _ _ rfl w.heap.size 0 _ rfl rfl htC.out Ai (one6 _ _ _ _ _ _ _ _) ?_))
     refine bodyPost_ret (Ax (v:=.agg #[.int .i64 (k:Int),.string T,.int .i64 I,.float .f64 R,.bool F,.slice none 0 0]) rfl rfl (run_loadVar_mid (P:=Tryz.prog) _ _ 0 40 _ _ hrR.out Tryz.underlying40 rfl Ai)) rfl ?_;rw [hSo.out];exact shortQ_ok ok.out rfl hbl.out
   · rw [if_neg ok] at hck
     replace hck:=Hd hck;replace ok:=Hd ok;go_wp2_with fail
     refine (hck.out _).mono ?_;rintro e w5 ⟨rfl,hb⟩;have h3:=Hd (h4.out.move hb);clear hb c0 c1 c2 c3 c4 c5 h4;go_wp2_with fail
     refine (Au _).mono ?_;rintro e w' ⟨rfl,hww⟩;obtain rfl:=hww.symm;refine ⟨rfl,?_⟩;rw [hSo.out];exact shortQ_no ok.out rfl h3.out.below
 · have e0:(E == 0)=false:=by rw [beq_eq_false_iff_ne];exact hE
   have e1:(E != 0)=true:=by simp [bne,e0]
   replace hE:=Hd hE;replace hSo:=Hd hSo;replace h4:=Hd h4;go_wp2_with fail
   refine (Au _).mono ?_;rintro e w' ⟨rfl,hww⟩;obtain rfl:=hww.symm;refine ⟨rfl,?_⟩;rw [hSo.out];exact shortQ_none rfl h4.out.below
end Go.Proofs.YtfaihaoajdcjbaaGreatDoor
