/- The reader: a value that is a line. -/
import Derived.Test.YtagkgfniihiinaaGreatDoorRdG
import Derived.Test.YtagkgfniihiinaaGreatDoorJ64
set_option linter.all false
namespace Go.Proofs.YtagkgfniihiinaaGreatDoor
open Go.RowKit
def Ar (k:Int) (t:ByteArray) (i:Int) (r:Nat) (f:Bool):V:=.mk k t i r f []
theorem leaf_check (k:Int) (t:ByteArray) (i:Int) (r:Nat) (f:Bool) (hk:Al k=false):Fk (Ar k t i r f)=if okV (Ar k t i r f)=true then 0 else 31:=by
 unfold Fk Ar;have h:V.fine (.mk k t i r f []) 8=okV (.mk k t i r f []):=by simp [V.fine,V.fineL,hk]
 rw [h];simp [V.count,V.countL]
theorem leaf_any (k:Int) (t:ByteArray) (i:Int) (r:Nat) (f:Bool) (hk:Al k=false) (ht:t.size<=9223372036854775807) (w:World) :
  Calls Tryz.prog 69 #[.agg #[.int .i64 k,.string t,.int .i64 i,.float .f64 r,.bool f,.slice none 0 0]] w fun e w' => e=.returned (.int .i64 (if okV (Ar k t i r f)=true then 0 else 31))/\Below w.heap.size w w' := by
 rw [<-leaf_check k t i r f hk];exact check_any (Ar k t i r f) none 0 w (RV.leaf _ _ _ _ _ _ _ _) ((V.sized_eq _).2 ⟨ht,trivial⟩) (by simp [Ar,V.count,V.countL])
def ShortQ (o:Option V) (w:World) (e:Ending) (w' : World):Prop:=
 (match o with
  | some v=>if okV v=true then e=.returned (.agg #[.int .i64 v.kind,.string v.text,.int .i64 v.int,.float .f64 v.real,.bool v.flag,.slice none 0 0]) else e=C1 51
  | none=>e=C1 51)/\Below w.heap.size w w'
theorem shortQ_ok {v:V} {w w' : World} {e:Ending} (ok:okV v=true) (h:e=.returned (.agg #[.int .i64 v.kind,.string v.text,.int .i64 v.int,.float .f64 v.real,.bool v.flag,.slice none 0 0])) (hb:Below w.heap.size w w'):ShortQ (some v) w e w' := by
 unfold ShortQ;dsimp only;rw [if_pos ok];exact ⟨h,hb⟩
theorem shortQ_no {v:V} {w w' : World} {e:Ending} (ok:¬okV v=true) (h:e=C1 51) (hb:Below w.heap.size w w'):ShortQ (some v) w e w' := by
 unfold ShortQ;dsimp only;rw [if_neg ok];exact ⟨h,hb⟩
theorem shortQ_none {w w' : World} {e:Ending} (h:e=C1 51) (hb:Below w.heap.size w w'):ShortQ none w e w' := ⟨h,hb⟩
structure Two (w W:World) (k:Int) (t:ByteArray) (i:Int) (r:Nat) (f:Bool):Prop where
 zero:W.rangeAt w.heap.size 0 [.int .i64 0,.string ⟨#[]⟩,.int .i64 0,.float .f64 0,.bool false,.slice none 0 0]
 full:W.rangeAt (w.heap.size+1) 0 [.int .i64 k,.string t,.int .i64 i,.float .f64 r,.bool f,.slice none 0 0]
 blk:Blk W w.heap.size
 blk1:Blk W (w.heap.size+1)
 below:Below w.heap.size w W
theorem Two.start (w:World) (k:Int) (t:ByteArray) (i:Int) (r:Nat) (f:Bool):Two w ((w.alloc (.cells #[.int .i64 0,.string ⟨#[]⟩,.int .i64 0,.float .f64 0,.bool false,.slice none 0 0] 26)).alloc (.cells #[.int .i64 k,.string t,.int .i64 i,.float .f64 r,.bool f,.slice none 0 0] 26)) k t i r f:=by
 have hs:(w.alloc (.cells #[.int .i64 0,.string ⟨#[]⟩,.int .i64 0,.float .f64 0,.bool false,.slice none 0 0] 26)).heap.size=w.heap.size+1:=by simp
 refine ⟨?_,?_,?_,?_,((Below.refl _ _).alloc (Nat.le_refl _) _).alloc (by simp) _⟩
 ·intro q x hq
  rw [Nat.zero_add,World.cell?_alloc_past _ _ _ (by simp),World.cell?_alloc_new];simpa using hq
 ·intro q x hq
  rw [Nat.zero_add,<-hs,World.cell?_alloc_new];simpa using hq
 ·exact (Blk.new w _ _).of_block (by rw [Below.heap_alloc _ _ _ (by simp)])
 ·rw [<-hs];exact Blk.new _ _ _
theorem Two.move {w W W' : World} {k:Int} {t:ByteArray} {i:Int} {r:Nat} {f:Bool} (h:Two w W k t i r f) (hb:Below W.heap.size W W'):Two w W' k t i r f:=
 ⟨fun q x hq=>by rw [hb.cell (World.block_lt_of_cell? _ _ (h.zero q x hq))];exact h.zero q x hq,fun q x hq=>by rw [hb.cell (World.block_lt_of_cell? _ _ (h.full q x hq))];exact h.full q x hq,
  h.blk.of_block (hb.block _ h.blk.lt),h.blk1.of_block (hb.block _ h.blk1.lt),h.below.trans (hb.mono h.below.size)⟩
theorem Two.set1 {w W:World} {k:Int} {t:ByteArray} {i:Int} {r:Nat} {f:Bool} (h:Two w W k t i r f) (n:ByteArray):Two w (W.setCell ⟨w.heap.size+1,1,none⟩ (.string n)) k n i r f:=by
 have g:=fun q x (hq:([.int .i64 k,.string t,.int .i64 i,.float .f64 r,.bool f,.slice none 0 0]:List Value)[q]?=some x)=>h.full q x hq;refine ⟨fun q x hq=>?_,range6 ?_ (Ak (g 1 _ rfl)) ?_ ?_ ?_ ?_,h.blk.setCell _ _,h.blk1.setCell _ _,h.below.trans ((Fr.setCell (S:=fun k=>k=w.heap.size+1) (Fr.refl _ _) (fun _=>rfl) _).below h.below.size (fun i hi e=>by omega))⟩
 ·rw [Ac (by simp)];exact h.zero q x hq
 ·rw [Ac (by simp)];exact g 0 _ rfl
 ·rw [Ac (by simp)];exact g 2 _ rfl
 ·rw [Ac (by simp)];exact g 3 _ rfl
 ·rw [Ac (by simp)];exact g 4 _ rfl
 ·rw [Ac (by simp)];exact g 5 _ rfl
theorem Two.set2 {w W:World} {k:Int} {t:ByteArray} {i:Int} {r:Nat} {f:Bool} (h:Two w W k t i r f) (n:Int):Two w (W.setCell ⟨w.heap.size+1,2,none⟩ (.int .i64 n)) k t n r f:=by
 have g:=fun q x (hq:([.int .i64 k,.string t,.int .i64 i,.float .f64 r,.bool f,.slice none 0 0]:List Value)[q]?=some x)=>h.full q x hq;refine ⟨fun q x hq=>?_,range6 ?_ ?_ (Ak (g 2 _ rfl)) ?_ ?_ ?_,h.blk.setCell _ _,h.blk1.setCell _ _,h.below.trans ((Fr.setCell (S:=fun k=>k=w.heap.size+1) (Fr.refl _ _) (fun _=>rfl) _).below h.below.size (fun i hi e=>by omega))⟩
 ·rw [Ac (by simp)];exact h.zero q x hq
 ·rw [Ac (by simp)];exact g 0 _ rfl
 ·rw [Ac (by simp)];exact g 1 _ rfl
 ·rw [Ac (by simp)];exact g 3 _ rfl
 ·rw [Ac (by simp)];exact g 4 _ rfl
 ·rw [Ac (by simp)];exact g 5 _ rfl
theorem Two.set3 {w W:World} {k:Int} {t:ByteArray} {i:Int} {r:Nat} {f:Bool} (h:Two w W k t i r f) (n:Nat):Two w (W.setCell ⟨w.heap.size+1,3,none⟩ (.float .f64 n)) k t i n f:=by
 have g:=fun q x (hq:([.int .i64 k,.string t,.int .i64 i,.float .f64 r,.bool f,.slice none 0 0]:List Value)[q]?=some x)=>h.full q x hq;refine ⟨fun q x hq=>?_,range6 ?_ ?_ ?_ (Ak (g 3 _ rfl)) ?_ ?_,h.blk.setCell _ _,h.blk1.setCell _ _,h.below.trans ((Fr.setCell (S:=fun k=>k=w.heap.size+1) (Fr.refl _ _) (fun _=>rfl) _).below h.below.size (fun i hi e=>by omega))⟩
 ·rw [Ac (by simp)];exact h.zero q x hq
 ·rw [Ac (by simp)];exact g 0 _ rfl
 ·rw [Ac (by simp)];exact g 1 _ rfl
 ·rw [Ac (by simp)];exact g 2 _ rfl
 ·rw [Ac (by simp)];exact g 4 _ rfl
 ·rw [Ac (by simp)];exact g 5 _ rfl
theorem Two.set4 {w W:World} {k:Int} {t:ByteArray} {i:Int} {r:Nat} {f:Bool} (h:Two w W k t i r f) (n:Bool):Two w (W.setCell ⟨w.heap.size+1,4,none⟩ (.bool n)) k t i r n:=by
 have g:=fun q x (hq:([.int .i64 k,.string t,.int .i64 i,.float .f64 r,.bool f,.slice none 0 0]:List Value)[q]?=some x)=>h.full q x hq;refine ⟨fun q x hq=>?_,range6 ?_ ?_ ?_ ?_ (Ak (g 4 _ rfl)) ?_,h.blk.setCell _ _,h.blk1.setCell _ _,h.below.trans ((Fr.setCell (S:=fun k=>k=w.heap.size+1) (Fr.refl _ _) (fun _=>rfl) _).below h.below.size (fun i hi e=>by omega))⟩
 ·rw [Ac (by simp)];exact h.zero q x hq
 ·rw [Ac (by simp)];exact g 0 _ rfl
 ·rw [Ac (by simp)];exact g 1 _ rfl
 ·rw [Ac (by simp)];exact g 2 _ rfl
 ·rw [Ac (by simp)];exact g 3 _ rfl
 ·rw [Ac (by simp)];exact g 5 _ rfl
def RealQ (o:Option Nat) (w:World) (e:Ending) (w' : World):Prop:=
 (match o with
  | some r=>e=.returned (.tuple #[.float .f64 r,.int .i64 0])
  | none=>∃x,e=.returned (.tuple #[.float .f64 x,.int .i64 21]))/\Below w.heap.size w w'
theorem okV_null:okV (Ar 6 ⟨#[]⟩ 0 0 false)=true:=by decide +kernel
def Bm (ro:Option Nat) (k:Nat) (t:ByteArray):Option V:=
 if k=1\/k=2\/k=9 then some (Ar k t 0 0 false)
 else if k=3 then (wP t.data.toList).map fun n=>Ar 3 ⟨#[]⟩ n 0 false
 else if k=7 then ro.map fun r=>Ar 7 ⟨#[]⟩ 0 r false
 else if k=8 then (if t=⟨#[116]⟩ then some (Ar 8 ⟨#[]⟩ 0 0 true) else if t=⟨#[102]⟩ then some (Ar 8 ⟨#[]⟩ 0 0 false) else none)
 else if t=⟨#[]⟩ then some (Ar 6 ⟨#[]⟩ 0 0 false) else none
set_option maxRecDepth 100000 in
set_option maxHeartbeats 6400000 in
theorem short_any {w:World} {k:Nat} {t:ByteArray} {o:Option Nat} (hk:k=1\/k=2\/k=9\/k=3\/k=7\/k=8\/k=6) (ht:t.size<=1000000) (hN:Nums w) (hp:k=7->∀W,Below w.heap.size w W->Calls Tryz.prog 90 #[.string t] W (RealQ o W)) :
  Calls Tryz.prog 71 #[.int .i64 (k:Int),.string t] w (ShortQ (Bm o k t) w):=by
 have h2:=Two.start w (k:Int) ⟨#[]⟩ 0 0 false;obtain ⟨W2,hW2⟩:∃W,W=(w.alloc (.cells #[.int .i64 0,.string ⟨#[]⟩,.int .i64 0,.float .f64 0,.bool false,.slice none 0 0] 26)).alloc (.cells #[.int .i64 (k:Int),.string ⟨#[]⟩,.int .i64 0,.float .f64 0,.bool false,.slice none 0 0] 26):=⟨_,rfl⟩;rw [<-hW2] at h2;have j:Al (k:Int)=false:=by unfold Al;rw [decide_eq_false_iff_not];omega
 obtain ⟨S,hS⟩:∃S,S=Bm o k t:=⟨_,rfl⟩;rw [<-hS];replace hW2:=Hd hW2;replace h2:=Hd h2;replace hS:=Hd hS;replace hp:=Hd hp;replace hk:=Hd hk;replace hN:=Hd hN
 go_enter Tryz.func71,Tryz.ntmps71
 go_upto_region 2 with fail
 rw [<-hW2.out];clear hW2
 go_upto_block 0 with fail
 go_cut [6] from 11 to 44 (fun s5 wx=>∃(T:ByteArray) (I:Int) (R:Nat) (F:Bool) (E:Int),s5=.int .i64 E/\Two w wx (k:Int) T I R F/\((E=0/\S=some (Ar (k:Int) T I R F)/\T.size<=1000000)\/(E≠0/\S=none)))
 case first=>
  have h2:=h2.out;rcases hk.out with rfl | rfl | rfl | rfl | rfl | rfl | rfl
  ·have z:=h2.blk1.frz 1 none
   have y0:=h2.full 0 _ rfl;have y1:=h2.full 1 _ rfl;have y2:=h2.full 2 _ rfl;have y3:=h2.full 3 _ rfl;have y4:=h2.full 4 _ rfl;have y5:=h2.full 5 _ rfl;rw [Nat.zero_add] at y0 y1 y2 y3 y4 y5;have h4:=h2.set1 t;have c0:=h4.full 0 _ rfl;have c1:=h4.full 1 _ rfl;have c2:=h4.full 2 _ rfl;have c3:=h4.full 3 _ rfl;have c4:=h4.full 4 _ rfl;have c5:=h4.full 5 _ rfl;rw [Nat.zero_add] at c0 c1 c2 c3 c4 c5;replace h4:=Hd h4;clear h2;go_wp2_with fail
   go_meet
   exact ⟨t,0,0,false,0,rfl,h4.out,.inl ⟨rfl,hS.out,ht⟩⟩
  ·have z:=h2.blk1.frz 1 none
   have y0:=h2.full 0 _ rfl;have y1:=h2.full 1 _ rfl;have y2:=h2.full 2 _ rfl;have y3:=h2.full 3 _ rfl;have y4:=h2.full 4 _ rfl;have y5:=h2.full 5 _ rfl;rw [Nat.zero_add] at y0 y1 y2 y3 y4 y5;have h4:=h2.set1 t;have c0:=h4.full 0 _ rfl;have c1:=h4.full 1 _ rfl;have c2:=h4.full 2 _ rfl;have c3:=h4.full 3 _ rfl;have c4:=h4.full 4 _ rfl;have c5:=h4.full 5 _ rfl;rw [Nat.zero_add] at c0 c1 c2 c3 c4 c5;replace h4:=Hd h4;clear h2;go_wp2_with fail
   go_meet
   exact ⟨t,0,0,false,0,rfl,h4.out,.inl ⟨rfl,hS.out,ht⟩⟩
  ·have z:=h2.blk1.frz 1 none
   have y0:=h2.full 0 _ rfl;have y1:=h2.full 1 _ rfl;have y2:=h2.full 2 _ rfl;have y3:=h2.full 3 _ rfl;have y4:=h2.full 4 _ rfl;have y5:=h2.full 5 _ rfl;rw [Nat.zero_add] at y0 y1 y2 y3 y4 y5;have h4:=h2.set1 t;have c0:=h4.full 0 _ rfl;have c1:=h4.full 1 _ rfl;have c2:=h4.full 2 _ rfl;have c3:=h4.full 3 _ rfl;have c4:=h4.full 4 _ rfl;have c5:=h4.full 5 _ rfl;rw [Nat.zero_add] at c0 c1 c2 c3 c4 c5;replace h4:=Hd h4;clear h2;go_wp2_with fail
   go_meet
   exact ⟨t,0,0,false,0,rfl,h4.out,.inl ⟨rfl,hS.out,ht⟩⟩
  ·have b:=wparse_any t (by omega) W2 (hN.out.below h2.below)
   have a:S=(wP t.data.toList).map fun n=>Ar 3 ⟨#[]⟩ n 0 false:=hS.out;cases hw:wP t.data.toList with
   | none=>
    rw [hw] at b a;replace b:Calls Tryz.prog 88 #[.string t] W2 (fun e w' => e=.returned (.tuple #[.int .i64 0,.int .i64 11])/\Below W2.heap.size W2 w'):=b;replace b:=Hd b;replace h2:=Hd h2;replace a:=Hd a;go_wp2_with fail
    refine b.out.mono ?_;rintro e w3 ⟨rfl,hb⟩;have h2:=h2.out.move hb;clear hb b;have z:=h2.blk1.frz 2 none;have y0:=h2.full 0 _ rfl;have y1:=h2.full 1 _ rfl;have y2:=h2.full 2 _ rfl;have y3:=h2.full 3 _ rfl;have y4:=h2.full 4 _ rfl;have y5:=h2.full 5 _ rfl;rw [Nat.zero_add] at y0 y1 y2 y3 y4 y5;have h4:=h2.set2 0;have c0:=h4.full 0 _ rfl;have c1:=h4.full 1 _ rfl;have c2:=h4.full 2 _ rfl;have c3:=h4.full 3 _ rfl;have c4:=h4.full 4 _ rfl;have c5:=h4.full 5 _ rfl;rw [Nat.zero_add] at c0 c1 c2 c3 c4 c5;replace h4:=Hd h4;clear h2;go_wp2_with fail
    go_meet
    exact ⟨⟨#[]⟩,0,0,false,11,rfl,h4.out,.inr ⟨by decide,a.out⟩⟩
   | some n=>
    rw [hw] at b a;replace b:Calls Tryz.prog 88 #[.string t] W2 (fun e w' => e=.returned (.tuple #[.int .i64 n,.int .i64 0])/\Below W2.heap.size W2 w'):=b;replace b:=Hd b;replace h2:=Hd h2;replace a:=Hd a;go_wp2_with fail
    refine b.out.mono ?_;rintro e w3 ⟨rfl,hb⟩;have h2:=h2.out.move hb;clear hb b;have z:=h2.blk1.frz 2 none;have y0:=h2.full 0 _ rfl;have y1:=h2.full 1 _ rfl;have y2:=h2.full 2 _ rfl;have y3:=h2.full 3 _ rfl;have y4:=h2.full 4 _ rfl;have y5:=h2.full 5 _ rfl;rw [Nat.zero_add] at y0 y1 y2 y3 y4 y5;have h4:=h2.set2 n;have c0:=h4.full 0 _ rfl;have c1:=h4.full 1 _ rfl;have c2:=h4.full 2 _ rfl;have c3:=h4.full 3 _ rfl;have c4:=h4.full 4 _ rfl;have c5:=h4.full 5 _ rfl;rw [Nat.zero_add] at c0 c1 c2 c3 c4 c5;replace h4:=Hd h4;clear h2;go_wp2_with fail
    go_meet
    exact ⟨⟨#[]⟩,n,0,false,0,rfl,h4.out,.inl ⟨rfl,a.out,by decide⟩⟩
  ·have b:=hp.out rfl W2 h2.below
   have a:S=o.map fun r=>Ar 7 ⟨#[]⟩ 0 r false:=hS.out;unfold RealQ at b;cases o with
   | none=>
    replace b:=Hd b;replace h2:=Hd h2;replace a:=Hd a;go_wp2_with fail
    refine b.out.mono ?_;rintro e w3 ⟨⟨x,rfl⟩,hb⟩;have h2:=h2.out.move hb;clear hb b;have z:=h2.blk1.frz 3 none;have y0:=h2.full 0 _ rfl;have y1:=h2.full 1 _ rfl;have y2:=h2.full 2 _ rfl;have y3:=h2.full 3 _ rfl;have y4:=h2.full 4 _ rfl;have y5:=h2.full 5 _ rfl;rw [Nat.zero_add] at y0 y1 y2 y3 y4 y5;have h4:=h2.set3 x;have c0:=h4.full 0 _ rfl;have c1:=h4.full 1 _ rfl;have c2:=h4.full 2 _ rfl;have c3:=h4.full 3 _ rfl;have c4:=h4.full 4 _ rfl;have c5:=h4.full 5 _ rfl;rw [Nat.zero_add] at c0 c1 c2 c3 c4 c5;replace h4:=Hd h4;clear h2;go_wp2_with fail
    go_meet
    exact ⟨⟨#[]⟩,0,x,false,21,rfl,h4.out,.inr ⟨by decide,a.out⟩⟩
   | some r=>
    replace b:=Hd b;replace h2:=Hd h2;replace a:=Hd a;go_wp2_with fail
    refine b.out.mono ?_;rintro e w3 ⟨rfl,hb⟩;have h2:=h2.out.move hb;clear hb b;have z:=h2.blk1.frz 3 none;have y0:=h2.full 0 _ rfl;have y1:=h2.full 1 _ rfl;have y2:=h2.full 2 _ rfl;have y3:=h2.full 3 _ rfl;have y4:=h2.full 4 _ rfl;have y5:=h2.full 5 _ rfl;rw [Nat.zero_add] at y0 y1 y2 y3 y4 y5;have h4:=h2.set3 r;have c0:=h4.full 0 _ rfl;have c1:=h4.full 1 _ rfl;have c2:=h4.full 2 _ rfl;have c3:=h4.full 3 _ rfl;have c4:=h4.full 4 _ rfl;have c5:=h4.full 5 _ rfl;rw [Nat.zero_add] at c0 c1 c2 c3 c4 c5;replace h4:=Hd h4;clear h2;go_wp2_with fail
    go_meet
    exact ⟨⟨#[]⟩,0,r,false,0,rfl,h4.out,.inl ⟨rfl,a.out,by decide⟩⟩
  ·have a:S=(if t=⟨#[116]⟩ then some (Ar 8 ⟨#[]⟩ 0 0 true) else if t=⟨#[102]⟩ then some (Ar 8 ⟨#[]⟩ 0 0 false) else none):=hS.out
   by_cases h1:t=⟨#[116]⟩
   ·rw [if_pos h1] at a
    subst h1;replace a:=Hd a;have z:=h2.blk1.frz 4 none;have y0:=h2.full 0 _ rfl;have y1:=h2.full 1 _ rfl;have y2:=h2.full 2 _ rfl;have y3:=h2.full 3 _ rfl;have y4:=h2.full 4 _ rfl;have y5:=h2.full 5 _ rfl;rw [Nat.zero_add] at y0 y1 y2 y3 y4 y5;have h4:=h2.set4 true;have c0:=h4.full 0 _ rfl;have c1:=h4.full 1 _ rfl;have c2:=h4.full 2 _ rfl;have c3:=h4.full 3 _ rfl;have c4:=h4.full 4 _ rfl;have c5:=h4.full 5 _ rfl;rw [Nat.zero_add] at c0 c1 c2 c3 c4 c5;replace h4:=Hd h4;clear h2;go_wp2_with fail
    go_meet
    exact ⟨⟨#[]⟩,0,0,true,0,rfl,h4.out,.inl ⟨rfl,a.out,by decide⟩⟩
   ·rw [if_neg h1] at a
    have j1:(t.toList == [116])=false:=beq_eq_false_iff_ne.2 fun e=>h1 (by rw [ByteArray.toList_eq] at e;exact ByteArray.ext (Array.toList_inj.1 e));have j3:(t.toList != [116])=true:=by simp [bne,j1]
    by_cases h3:t=⟨#[102]⟩
    ·rw [if_pos h3] at a
     subst h3;clear j1 j3;replace h1:=Hd h1;replace a:=Hd a;have z:=h2.blk1.frz 4 none;have y0:=h2.full 0 _ rfl;have y1:=h2.full 1 _ rfl;have y2:=h2.full 2 _ rfl;have y3:=h2.full 3 _ rfl;have y4:=h2.full 4 _ rfl;have y5:=h2.full 5 _ rfl;rw [Nat.zero_add] at y0 y1 y2 y3 y4 y5;have h4:=h2.set4 false;have c0:=h4.full 0 _ rfl;have c1:=h4.full 1 _ rfl;have c2:=h4.full 2 _ rfl;have c3:=h4.full 3 _ rfl;have c4:=h4.full 4 _ rfl;have c5:=h4.full 5 _ rfl;rw [Nat.zero_add] at c0 c1 c2 c3 c4 c5;replace h4:=Hd h4;clear h2;go_wp2_with fail
     go_meet
     exact ⟨⟨#[]⟩,0,0,false,0,rfl,h4.out,.inl ⟨rfl,a.out,by decide⟩⟩
    ·rw [if_neg h3] at a
     have j2:(t.toList == [102])=false:=beq_eq_false_iff_ne.2 fun e=>h3 (by rw [ByteArray.toList_eq] at e;exact ByteArray.ext (Array.toList_inj.1 e));have j4:(t.toList != [102])=true:=by simp [bne,j2]
     replace h1:=Hd h1;replace h3:=Hd h3;replace a:=Hd a;have z:=h2.blk1.frz 4 none;have y0:=h2.full 0 _ rfl;have y1:=h2.full 1 _ rfl;have y2:=h2.full 2 _ rfl;have y3:=h2.full 3 _ rfl;have y4:=h2.full 4 _ rfl;have y5:=h2.full 5 _ rfl;rw [Nat.zero_add] at y0 y1 y2 y3 y4 y5;have h4:=h2.set4 false;have c0:=h4.full 0 _ rfl;have c1:=h4.full 1 _ rfl;have c2:=h4.full 2 _ rfl;have c3:=h4.full 3 _ rfl;have c4:=h4.full 4 _ rfl;have c5:=h4.full 5 _ rfl;rw [Nat.zero_add] at c0 c1 c2 c3 c4 c5;replace h4:=Hd h4;clear h2;go_wp2_with fail
     go_meet
     exact ⟨⟨#[]⟩,0,0,false,51,rfl,h4.out,.inr ⟨by decide,a.out⟩⟩
  ·have a:S=(if t=⟨#[]⟩ then some (Ar 6 ⟨#[]⟩ 0 0 false) else none):=hS.out
   have h4:=Hd (h2);replace h2:=Hd h2;by_cases h1:t=⟨#[]⟩
   ·rw [if_pos h1] at a
    subst h1;replace a:=Hd a;go_wp2_with fail
    go_meet
    exact ⟨⟨#[]⟩,0,0,false,0,rfl,h4.out,.inl ⟨rfl,a.out,by decide⟩⟩
   ·rw [if_neg h1] at a
    have j0:¬t.toList=[]:=fun e=>h1 (by rw [ByteArray.toList_eq] at e;exact ByteArray.ext (Array.toList_inj.1 e));have j1:(t.toList == [])=false:=beq_eq_false_iff_ne.2 j0;have j3:(t.toList != [])=true:=by simp [bne,j1]
    have j4:t.toList.isEmpty=false:=by cases hh:t.toList.isEmpty with | false=>rfl | true=>exact absurd (List.isEmpty_iff.1 hh) j0
    replace h1:=Hd h1;replace a:=Hd a;go_wp2_with fail
    go_meet
    exact ⟨⟨#[]⟩,0,0,false,51,rfl,h4.out,.inr ⟨by decide,a.out⟩⟩
 obtain ⟨T,I,R,F,E,rfl,h4,hE⟩:=hcut
 rename World=>w4
 clear h2 hp hk hN;rcases hE with ⟨rfl,a,hT⟩ | ⟨hE,a⟩
 ·have c:=leaf_any (k:Int) T I R F j (by omega)
  have c0:=h4.full 0 _ rfl;have c1:=h4.full 1 _ rfl;have c2:=h4.full 2 _ rfl;have c3:=h4.full 3 _ rfl;have c4:=h4.full 4 _ rfl;have c5:=h4.full 5 _ rfl;rw [Nat.zero_add] at c0 c1 c2 c3 c4 c5;replace h4:=Hd h4;replace a:=Hd a;by_cases ok:okV (Ar (k:Int) T I R F)=true
  ·rw [if_pos ok] at c
   replace c:=Hd c;replace ok:=Hd ok;go_wp2_with fail
   refine (c.out _).mono ?_;rintro e w5 ⟨rfl,hb⟩;have h3:=h4.out.move hb;clear hb c0 c1 c2 c3 c4 c5 h4;obtain ⟨w3,hw3⟩:∃w3,w3=w5:=⟨_,rfl⟩;rw [<-hw3] at h3 ⊢;replace hw3:=Hd hw3;have d:(w3.setCells w.heap.size 0 [.int .i64 (k:Int),.string T,.int .i64 I,.float .f64 R,.bool F,.slice none 0 0]).rangeAt w.heap.size 0 [.int .i64 (k:Int),.string T,.int .i64 I,.float .f64 R,.bool F,.slice none 0 0]:=
    World.rangeAt_setCells_same _ _ _ _ (Af (n:=6) h3.zero h3.blk rfl)
   have l:=Hd (Af (n:=6) h3.zero h3.blk rfl);have m:=Hd (h3.full);have f:Below w.heap.size w (w3.setCells w.heap.size 0 [.int .i64 (k:Int),.string T,.int .i64 I,.float .f64 R,.bool F,.slice none 0 0]):=
    h3.below.trans ((Fr.setCells (S:=fun k=>k=w.heap.size) (fun _=>rfl) _ _ _ (Fr.refl _ w3)).below h3.below.size (fun i hi h=>by omega))
   replace d:=Hd d;replace f:=Hd f;replace h3:=Hd h3
   go_wp2_with (first
    | (refine wpList_load_mid rfl 26 _ rfl (w.heap.size+1) 0 rfl _ _ m.out Tryz.underlying26 rfl Ad ?_)
    | (refine wpList_store_mid rfl 26 _ _ rfl w.heap.size 0 _ rfl rfl l.out Ad (one6 _ _ _ _ _ _ _ _) ?_))
   refine bodyPost_ret (B9 (v:=.agg #[.int .i64 (k:Int),.string T,.int .i64 I,.float .f64 R,.bool F,.slice none 0 0]) rfl rfl (run_loadVar_mid (P:=Tryz.prog) _ _ 0 26 _ _ d.out Tryz.underlying26 rfl Ad)) rfl ?_;rw [a.out];exact shortQ_ok ok.out rfl f.out
  ·rw [if_neg ok] at c
   replace c:=Hd c;replace ok:=Hd ok;go_wp2_with fail
   refine (c.out _).mono ?_;rintro e w5 ⟨rfl,hb⟩;have h3:=Hd (h4.out.move hb);clear hb c0 c1 c2 c3 c4 c5 h4;go_wp2_with fail
   refine (Bf _).mono ?_;rintro e w' ⟨rfl,g⟩;obtain rfl:=g.symm;refine ⟨rfl,?_⟩;rw [a.out];exact shortQ_no ok.out rfl h3.out.below
 ·have e0:(E == 0)=false:=by rw [beq_eq_false_iff_ne];exact hE
  have e1:(E != 0)=true:=by simp [bne,e0]
  replace hE:=Hd hE;replace a:=Hd a;replace h4:=Hd h4;go_wp2_with fail
  refine (Bf _).mono ?_;rintro e w' ⟨rfl,g⟩;obtain rfl:=g.symm;refine ⟨rfl,?_⟩;rw [a.out];exact shortQ_none rfl h4.out.below
structure Rp where
 f:List UInt8->Option Nat
 K:List UInt8->Prop
instance:CoeFun Rp (fun _=>List UInt8->Option Nat):=⟨Rp.f⟩
inductive Head where
 | stop (e:Nat)
 | leaf (v:V) (used:Nat)
 | list (kind n used:Nat)
def A0 (rp:Rp):List UInt8->Head
 | []=>.stop 0
 | c :: L=>
  if Ab c=0 then .stop 51 else
  match Az L with
  | .stop e=>.stop e
  | .got (t,u)=>
   if t=[45,49]/\(Ab c=4\/Ab c=5) then .leaf (Ar 6 ⟨#[]⟩ 0 0 false) (1+u)
   else if Ab c=4\/Ab c=10\/Ab c=11 then
    match numS t 4096 with
    | none=>.stop 51
    | some n=>match Cd (L.drop u) n with
     | .stop e=>.stop e
     | .got s=>if okV (Ar (Ab c) ⟨s.toArray⟩ 0 0 false)=true then .leaf (Ar (Ab c) ⟨s.toArray⟩ 0 0 false) (1+u+(n+2)) else .stop 51
   else if Ab c=5\/Ab c=13\/Ab c=14 then
    match numS t 1000 with
    | none=>.stop 51
    | some n=>.list (Ab c) n (1+u)
   else if Ab c=12 then
    match numS t 1000 with
    | none=>.stop 51
    | some n=>.list 12 (2 * n) (1+u)
   else match Bm (rp t) (Ab c) ⟨t.toArray⟩ with
    | none=>.stop 51
    | some v=>if okV v=true then .leaf v (1+u) else .stop 51
def Bg (f:Nat->List UInt8->Out (V × Nat × Nat)):Nat->Nat->List UInt8->Out (List V × Nat × Nat)
 | 0,many,_=>.got ([],0,many)
 | n+1,many,L=>match f many L with
  | .stop e=>.stop e
  | .got (v,u,m)=>match Bg f n m (L.drop u) with
   | .stop e=>.stop e
   | .got (l,u2,m2)=>.got (v :: l,u+u2,m2)
def At (rp:Rp):Nat->Nat->List UInt8->Out (V × Nat × Nat)
 | 0,many,L=>match A0 rp L with
  | .stop e=>.stop e
  | .leaf v u=>.got (v,u,many)
  | .list _ _ _=>.stop 51
 | lv+1,many,L=>match A0 rp L with
  | .stop e=>.stop e
  | .leaf v u=>.got (v,u,many)
  | .list kd n u=>
   if 1000<many+n\/(kd=14/\(n=0\/lv<7)) then .stop 51
   else match Bg (At rp lv) n (many+n) (L.drop u) with
    | .stop e=>.stop e
    | .got (l,u2,m2)=>.got (.mk kd ⟨#[]⟩ 0 0 false l,u+u2,m2)
def needH (rp:Rp) (L:List UInt8):Prop:=∀(c:UInt8) (L' t:List UInt8) (u:Nat),L=c :: L' -> Ab c=7->Az L' = .got (t,u)->rp.K t
def needN (need:Nat->List UInt8->Prop) (f:Nat->List UInt8->Out (V × Nat × Nat)):Nat->Nat->List UInt8->Prop
 | 0,_,_=>True
 | n+1,m,L=>need m L/\∀(v:V) (u m' : Nat),f m L=.got (v,u,m')->needN need f n m' (L.drop u)
def Dj (rp:Rp):Nat->Nat->List UInt8->Prop
 | 0,_,L=>needH rp L
 | lv+1,m,L=>needH rp L/\∀(kd n u:Nat),A0 rp L=.list kd n u->needN (Dj rp lv) (At rp lv) n (m+n) (L.drop u)
theorem needV_head {rp:Rp} {lv m:Nat} {L:List UInt8} (h:Dj rp lv m L):needH rp L:=by
 cases lv with
 | zero=>exact h
 | succ lv=>exact h.1
structure Env (rp:Rp) (w0:World) (s:ByteArray):Prop where
 nums:Nums w0
 real:∀W,Below w0.heap.size w0 W->∀(t:List UInt8),rp.K t->Calls Tryz.prog 90 #[.string ⟨t.toArray⟩] W (RealQ (rp t) W)
structure RS (rp:Rp) (w0 w:World) (g b o n cap:Nat) (s:ByteArray) (at_ many:Nat):Prop where
 scan:Scan w g b o n cap s at_ many
 env:Env rp w0 s
 below:Below w0.heap.size w0 w
 base:w0.heap.size<=g
 le:at_<=n
theorem RS.next {rp:Rp} {w0 w w' : World} {g b o n cap at_ many at2 many2:Nat} {s:ByteArray} (h:RS rp w0 w g b o n cap s at_ many) (hf:Fr (fun k=>k=g) w w') (hs:Scan w' g b o n cap s at2 many2) (hl:at2<=n):RS rp w0 w' g b o n cap s at2 many2:=
 ⟨hs,h.env,h.below.trans (hf.below h.below.size (fun i hi e=>by have:=h.base;omega)),h.base,hl⟩
theorem Am {w w' : World} {g:Nat} (h:Below w.heap.size w w'):Fr (fun k=>k=g) w w' := (Fr.of_below h).mono (fun i hi h=>absurd hi (Nat.not_lt_of_le h))
theorem RS.grow {rp:Rp} {w0 w w' : World} {g b o n cap at_ many:Nat} {s:ByteArray} (h:RS rp w0 w g b o n cap s at_ many) (hb:Below w.heap.size w w'):RS rp w0 w' g b o n cap s at_ many:=by
 have a:g<w.heap.size:=h.scan.blk.lt;refine h.next (Am hb) ⟨?_,?_,?_,?_,?_,h.scan.size,h.scan.ne,h.scan.room,h.scan.big⟩ h.le
 ·rw [hb.cell (World.block_lt_of_cell? _ _ h.scan.c0)];exact h.scan.c0
 ·rw [hb.cell (World.block_lt_of_cell? _ _ h.scan.c1)];exact h.scan.c1
 ·rw [hb.cell (World.block_lt_of_cell? _ _ h.scan.c2)];exact h.scan.c2
 ·exact h.scan.blk.of_block (hb.block _ a)
 ·exact B6 h.scan.bytes hb
theorem RS.nums {rp:Rp} {w0 w:World} {g b o n cap at_ many:Nat} {s:ByteArray} (h:RS rp w0 w g b o n cap s at_ many):Nums w:=h.env.nums.below h.below
def ValQ (rp:Rp) (w0:World) (g b o n cap:Nat) (s:ByteArray) (at_:Nat) (out:Out (V × Nat × Nat)) (w:World) (e:Ending) (w' : World):Prop:=
 match out with
 | .stop q=>e=C1 q/\Fr (fun k=>k=g) w w'
 | .got (v,u,m)=>∃(a:Option Addr) (ca:Nat),e=.returned (.agg #[.int .i64 v.kind,.string v.text,.int .i64 v.int,.float .f64 v.real,.bool v.flag,.slice a v.list.length ca]) /\
   RV (Bh w.heap.size w') (Ao v.kind v.text v.int v.real v.flag a v.list.length ca) v/\Fr (fun k=>k=g) w w' /\ RS rp w0 w' g b o n cap s (at_+u) m
