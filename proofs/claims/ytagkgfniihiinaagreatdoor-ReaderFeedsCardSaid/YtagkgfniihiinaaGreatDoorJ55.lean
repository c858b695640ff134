/- The reader: a value that is a line. -/
import Derived.Test.YtagkgfniihiinaaGreatDoorRdG
import Derived.Test.YtagkgfniihiinaaGreatDoorJ61
set_option linter.all false
namespace Go.Proofs.YtagkgfniihiinaaGreatDoor
open Go.RowKit
def Ao (k:Int) (t:ByteArray) (i:Int) (r:Nat) (f:Bool):V:=.mk k t i r f []
theorem leaf_check (k:Int) (t:ByteArray) (i:Int) (r:Nat) (f:Bool) (hk:Ak k=false):Eo (Ao k t i r f)=if okV (Ao k t i r f)=true then 0 else 31:=by
 unfold Eo Ao;have h:V.fine (.mk k t i r f []) 8=okV (.mk k t i r f []):=by simp [V.fine,V.fineL,hk]
 rw [h];simp [V.count,V.countL]
theorem Cq (k:Int) (t:ByteArray) (i:Int) (r:Nat) (f:Bool) (hk:Ak k=false) (ht:t.size<=9223372036854775807) (w:World) :
   Calls Tryz.prog 69 #[.agg #[.int .i64 k,.string t,.int .i64 i,.float .f64 r,.bool f,.slice none 0 0]] w fun e w' => e=.returned (.int .i64 (if okV (Ao k t i r f)=true then 0 else 31))/\Below w.heap.size w w' := by
 rw [<-leaf_check k t i r f hk]
 exact check_any (Ao k t i r f) none 0 w (RV.leaf _ _ _ _ _ _ _ _) ((V.sized_eq _).2 ⟨ht,trivial⟩) (by simp [Ao,V.count,V.countL])
def B6 (o:Option V) (w:World) (e:Ending) (w' : World):Prop:=
 (match o with
   | some v=>if okV v=true then e=.returned (.agg #[.int .i64 v.kind,.string v.text,.int .i64 v.int,.float .f64 v.real,.bool v.flag,.slice none 0 0]) else e=B1 51
   | none=>e=B1 51)/\Below w.heap.size w w'
theorem Cz {v:V} {w w' : World} {e:Ending} (ok:okV v=true) (h:e=.returned (.agg #[.int .i64 v.kind,.string v.text,.int .i64 v.int,.float .f64 v.real,.bool v.flag,.slice none 0 0])) (hb:Below w.heap.size w w'):B6 (some v) w e w' := by
 unfold B6;dsimp only;rw [if_pos ok];exact ⟨h,hb⟩
theorem Ef {v:V} {w w' : World} {e:Ending} (ok:¬okV v=true) (h:e=B1 51) (hb:Below w.heap.size w w'):B6 (some v) w e w' := by
 unfold B6;dsimp only;rw [if_neg ok];exact ⟨h,hb⟩
theorem D9 {w w' : World} {e:Ending} (h:e=B1 51) (hb:Below w.heap.size w w'):B6 none w e w' := ⟨h,hb⟩
structure Two (w W:World) (k:Int) (t:ByteArray) (i:Int) (r:Nat) (f:Bool):Prop where
 zero:W.rangeAt w.heap.size 0 [.int .i64 0,.string ⟨#[]⟩,.int .i64 0,.float .f64 0,.bool false,.slice none 0 0]
 full:W.rangeAt (w.heap.size+1) 0 [.int .i64 k,.string t,.int .i64 i,.float .f64 r,.bool f,.slice none 0 0]
 blk:Blk W w.heap.size
 blk1:Blk W (w.heap.size+1)
 below:Below w.heap.size w W
theorem Two.start (w:World) (k:Int) (t:ByteArray) (i:Int) (r:Nat) (f:Bool):Two w ((w.alloc (.cells #[.int .i64 0,.string ⟨#[]⟩,.int .i64 0,.float .f64 0,.bool false,.slice none 0 0] 26)).alloc (.cells #[.int .i64 k,.string t,.int .i64 i,.float .f64 r,.bool f,.slice none 0 0] 26)) k t i r f:=by
 have hs:(w.alloc (.cells #[.int .i64 0,.string ⟨#[]⟩,.int .i64 0,.float .f64 0,.bool false,.slice none 0 0] 26)).heap.size=w.heap.size+1:=by simp
 refine ⟨?_,?_,?_,?_,((Below.refl _ _).alloc (Nat.le_refl _) _).alloc (by simp) _⟩
 · intro q x hq
   rw [Nat.zero_add,World.cell?_alloc_past _ _ _ (by simp),World.cell?_alloc_new];simpa using hq
 · intro q x hq
   rw [Nat.zero_add,<-hs,World.cell?_alloc_new];simpa using hq
 · exact (Blk.new w _ _).of_block (by rw [Below.heap_alloc _ _ _ (by simp)])
 · rw [<-hs];exact Blk.new _ _ _
theorem Two.move {w W W' : World} {k:Int} {t:ByteArray} {i:Int} {r:Nat} {f:Bool} (h:Two w W k t i r f) (hb:Below W.heap.size W W'):Two w W' k t i r f:=
 ⟨fun q x hq=>by rw [hb.cell (World.block_lt_of_cell? _ _ (h.zero q x hq))];exact h.zero q x hq,fun q x hq=>by rw [hb.cell (World.block_lt_of_cell? _ _ (h.full q x hq))];exact h.full q x hq,
   h.blk.of_block (hb.block _ h.blk.lt),h.blk1.of_block (hb.block _ h.blk1.lt),h.below.trans (hb.mono h.below.size)⟩
set_option maxRecDepth 100000 in
set_option maxHeartbeats 3200000 in
theorem short_1 {w:World} {t:ByteArray} (ht:t.size<=1000000):Calls Tryz.prog 71 #[.int .i64 1,.string t] w (B6 (some (Ao 1 t 0 0 false)) w):=by
 have hck:=Cq 1 t 0 0 false (by decide) (by omega);have h2:=Two.start w 1 t 0 0 false;by_cases ok:okV (Ao 1 t 0 0 false)=true
 · rw [if_pos ok] at hck
   replace hck:=Hd hck;replace ok:=Hd ok;replace h2:=Hd h2
   go_enter Tryz.func71,Tryz.ntmps71
   go_wp2_with fail
   refine (hck.out _).mono ?_;rintro e w3 ⟨rfl,hb⟩;have h3:=h2.out.move hb;clear hb;have hrR:(w3.setCells w.heap.size 0 [.int .i64 1,.string t,.int .i64 0,.float .f64 0,.bool false,.slice none 0 0]).rangeAt w.heap.size 0 [.int .i64 1,.string t,.int .i64 0,.float .f64 0,.bool false,.slice none 0 0]:=
     World.rangeAt_setCells_same _ _ _ _ (Ae (n:=6) h3.zero h3.blk rfl)
   have htC:=Ae (n:=6) h3.zero h3.blk rfl;have hfu:=h3.full;have hbl:Below w.heap.size w (w3.setCells w.heap.size 0 [.int .i64 1,.string t,.int .i64 0,.float .f64 0,.bool false,.slice none 0 0]):=
     h3.below.trans ((Fr.setCells (S:=fun k=>k=w.heap.size) (fun _=>rfl) _ _ _ (Fr.refl _ w3)).below h3.below.size (fun i hi h=>by omega))
   replace hrR:=Hd hrR;replace htC:=Hd htC;replace hfu:=Hd hfu;replace hbl:=Hd hbl;replace h3:=Hd h3
   go_wp2_with (first
     | (refine wpList_load_mid rfl 26 _ rfl (w.heap.size+1) 0 rfl _ _ hfu.out Tryz.underlying26 rfl Ab ?_)
     | (refine wpList_store_mid rfl 26 _ _ rfl w.heap.size 0 _ rfl rfl htC.out Ab (one6 _ _ _ _ _ _ _ _) ?_))
   refine bodyPost_ret (Av (v:=.agg #[.int .i64 1,.string t,.int .i64 0,.float .f64 0,.bool false,.slice none 0 0]) rfl rfl (run_loadVar_mid (P:=Tryz.prog) _ _ 0 26 _ _ hrR.out Tryz.underlying26 rfl Ab)) rfl ?_;exact Cz ok.out rfl hbl.out
 · rw [if_neg ok] at hck
   replace hck:=Hd hck;replace ok:=Hd ok;replace h2:=Hd h2
   go_enter Tryz.func71,Tryz.ntmps71
   go_wp2_with fail
   refine (hck.out _).mono ?_;rintro e w3 ⟨rfl,hb⟩;have h3:=h2.out.move hb;replace h3:=Hd h3;clear hb;go_wp2_with fail
   refine (Ax _).mono ?_;rintro e w' ⟨rfl,hww⟩;obtain rfl:=hww.symm;exact ⟨rfl,Ef ok.out rfl h3.out.below⟩
set_option maxRecDepth 100000 in
set_option maxHeartbeats 3200000 in
theorem short_2 {w:World} {t:ByteArray} (ht:t.size<=1000000):Calls Tryz.prog 71 #[.int .i64 2,.string t] w (B6 (some (Ao 2 t 0 0 false)) w):=by
 have hck:=Cq 2 t 0 0 false (by decide) (by omega);have h2:=Two.start w 2 t 0 0 false;by_cases ok:okV (Ao 2 t 0 0 false)=true
 · rw [if_pos ok] at hck
   replace hck:=Hd hck;replace ok:=Hd ok;replace h2:=Hd h2
   go_enter Tryz.func71,Tryz.ntmps71
   go_wp2_with fail
   refine (hck.out _).mono ?_;rintro e w3 ⟨rfl,hb⟩;have h3:=h2.out.move hb;clear hb;have hrR:(w3.setCells w.heap.size 0 [.int .i64 2,.string t,.int .i64 0,.float .f64 0,.bool false,.slice none 0 0]).rangeAt w.heap.size 0 [.int .i64 2,.string t,.int .i64 0,.float .f64 0,.bool false,.slice none 0 0]:=
     World.rangeAt_setCells_same _ _ _ _ (Ae (n:=6) h3.zero h3.blk rfl)
   have htC:=Ae (n:=6) h3.zero h3.blk rfl;have hfu:=h3.full;have hbl:Below w.heap.size w (w3.setCells w.heap.size 0 [.int .i64 2,.string t,.int .i64 0,.float .f64 0,.bool false,.slice none 0 0]):=
     h3.below.trans ((Fr.setCells (S:=fun k=>k=w.heap.size) (fun _=>rfl) _ _ _ (Fr.refl _ w3)).below h3.below.size (fun i hi h=>by omega))
   replace hrR:=Hd hrR;replace htC:=Hd htC;replace hfu:=Hd hfu;replace hbl:=Hd hbl;replace h3:=Hd h3
   go_wp2_with (first
     | (refine wpList_load_mid rfl 26 _ rfl (w.heap.size+1) 0 rfl _ _ hfu.out Tryz.underlying26 rfl Ab ?_)
     | (refine wpList_store_mid rfl 26 _ _ rfl w.heap.size 0 _ rfl rfl htC.out Ab (one6 _ _ _ _ _ _ _ _) ?_))
   refine bodyPost_ret (Av (v:=.agg #[.int .i64 2,.string t,.int .i64 0,.float .f64 0,.bool false,.slice none 0 0]) rfl rfl (run_loadVar_mid (P:=Tryz.prog) _ _ 0 26 _ _ hrR.out Tryz.underlying26 rfl Ab)) rfl ?_;exact Cz ok.out rfl hbl.out
 · rw [if_neg ok] at hck
   replace hck:=Hd hck;replace ok:=Hd ok;replace h2:=Hd h2
   go_enter Tryz.func71,Tryz.ntmps71
   go_wp2_with fail
   refine (hck.out _).mono ?_;rintro e w3 ⟨rfl,hb⟩;have h3:=h2.out.move hb;replace h3:=Hd h3;clear hb;go_wp2_with fail
   refine (Ax _).mono ?_;rintro e w' ⟨rfl,hww⟩;obtain rfl:=hww.symm;exact ⟨rfl,Ef ok.out rfl h3.out.below⟩
set_option maxRecDepth 100000 in
set_option maxHeartbeats 3200000 in
theorem short_9 {w:World} {t:ByteArray} (ht:t.size<=1000000):Calls Tryz.prog 71 #[.int .i64 9,.string t] w (B6 (some (Ao 9 t 0 0 false)) w):=by
 have hck:=Cq 9 t 0 0 false (by decide) (by omega);have h2:=Two.start w 9 t 0 0 false;by_cases ok:okV (Ao 9 t 0 0 false)=true
 · rw [if_pos ok] at hck
   replace hck:=Hd hck;replace ok:=Hd ok;replace h2:=Hd h2
   go_enter Tryz.func71,Tryz.ntmps71
   go_wp2_with fail
   refine (hck.out _).mono ?_;rintro e w3 ⟨rfl,hb⟩;have h3:=h2.out.move hb;clear hb;have hrR:(w3.setCells w.heap.size 0 [.int .i64 9,.string t,.int .i64 0,.float .f64 0,.bool false,.slice none 0 0]).rangeAt w.heap.size 0 [.int .i64 9,.string t,.int .i64 0,.float .f64 0,.bool false,.slice none 0 0]:=
     World.rangeAt_setCells_same _ _ _ _ (Ae (n:=6) h3.zero h3.blk rfl)
   have htC:=Ae (n:=6) h3.zero h3.blk rfl;have hfu:=h3.full;have hbl:Below w.heap.size w (w3.setCells w.heap.size 0 [.int .i64 9,.string t,.int .i64 0,.float .f64 0,.bool false,.slice none 0 0]):=
     h3.below.trans ((Fr.setCells (S:=fun k=>k=w.heap.size) (fun _=>rfl) _ _ _ (Fr.refl _ w3)).below h3.below.size (fun i hi h=>by omega))
   replace hrR:=Hd hrR;replace htC:=Hd htC;replace hfu:=Hd hfu;replace hbl:=Hd hbl;replace h3:=Hd h3
   go_wp2_with (first
     | (refine wpList_load_mid rfl 26 _ rfl (w.heap.size+1) 0 rfl _ _ hfu.out Tryz.underlying26 rfl Ab ?_)
     | (refine wpList_store_mid rfl 26 _ _ rfl w.heap.size 0 _ rfl rfl htC.out Ab (one6 _ _ _ _ _ _ _ _) ?_))
   refine bodyPost_ret (Av (v:=.agg #[.int .i64 9,.string t,.int .i64 0,.float .f64 0,.bool false,.slice none 0 0]) rfl rfl (run_loadVar_mid (P:=Tryz.prog) _ _ 0 26 _ _ hrR.out Tryz.underlying26 rfl Ab)) rfl ?_;exact Cz ok.out rfl hbl.out
 · rw [if_neg ok] at hck
   replace hck:=Hd hck;replace ok:=Hd ok;replace h2:=Hd h2
   go_enter Tryz.func71,Tryz.ntmps71
   go_wp2_with fail
   refine (hck.out _).mono ?_;rintro e w3 ⟨rfl,hb⟩;have h3:=h2.out.move hb;replace h3:=Hd h3;clear hb;go_wp2_with fail
   refine (Ax _).mono ?_;rintro e w' ⟨rfl,hww⟩;obtain rfl:=hww.symm;exact ⟨rfl,Ef ok.out rfl h3.out.below⟩
theorem Two.set2 {w W:World} {k:Int} {t:ByteArray} {i:Int} {r:Nat} {f:Bool} (h:Two w W k t i r f) (n:Int):Two w (W.setCell ⟨w.heap.size+1,2,none⟩ (.int .i64 n)) k t n r f:=by
 have g:=fun q x (hq:([.int .i64 k,.string t,.int .i64 i,.float .f64 r,.bool f,.slice none 0 0]:List Value)[q]?=some x)=>h.full q x hq;refine ⟨fun q x hq=>?_,range6 ?_ ?_ (Am (g 2 _ rfl)) ?_ ?_ ?_,h.blk.setCell _ _,h.blk1.setCell _ _,h.below.trans ((Fr.setCell (S:=fun k=>k=w.heap.size+1) (Fr.refl _ _) (fun _=>rfl) _).below h.below.size (fun i hi e=>by omega))⟩
 · rw [Ad (by simp)];exact h.zero q x hq
 · rw [Ad (by simp)];exact g 0 _ rfl
 · rw [Ad (by simp)];exact g 1 _ rfl
 · rw [Ad (by simp)];exact g 3 _ rfl
 · rw [Ad (by simp)];exact g 4 _ rfl
 · rw [Ad (by simp)];exact g 5 _ rfl
theorem Two.set3 {w W:World} {k:Int} {t:ByteArray} {i:Int} {r:Nat} {f:Bool} (h:Two w W k t i r f) (n:Nat):Two w (W.setCell ⟨w.heap.size+1,3,none⟩ (.float .f64 n)) k t i n f:=by
 have g:=fun q x (hq:([.int .i64 k,.string t,.int .i64 i,.float .f64 r,.bool f,.slice none 0 0]:List Value)[q]?=some x)=>h.full q x hq;refine ⟨fun q x hq=>?_,range6 ?_ ?_ ?_ (Am (g 3 _ rfl)) ?_ ?_,h.blk.setCell _ _,h.blk1.setCell _ _,h.below.trans ((Fr.setCell (S:=fun k=>k=w.heap.size+1) (Fr.refl _ _) (fun _=>rfl) _).below h.below.size (fun i hi e=>by omega))⟩
 · rw [Ad (by simp)];exact h.zero q x hq
 · rw [Ad (by simp)];exact g 0 _ rfl
 · rw [Ad (by simp)];exact g 1 _ rfl
 · rw [Ad (by simp)];exact g 2 _ rfl
 · rw [Ad (by simp)];exact g 4 _ rfl
 · rw [Ad (by simp)];exact g 5 _ rfl
def RealQ (o:Option Nat) (w:World) (e:Ending) (w' : World):Prop:=
 (match o with
   | some r=>e=.returned (.tuple #[.float .f64 r,.int .i64 0])
   | none=>∃x,e=.returned (.tuple #[.float .f64 x,.int .i64 21]))/\Below w.heap.size w w'
set_option maxRecDepth 100000 in
set_option maxHeartbeats 3200000 in
theorem short_3 {w:World} {t:ByteArray} (ht:t.size<=1000000) (hN:Nums w):Calls Tryz.prog 71 #[.int .i64 3,.string t] w (B6 ((wP t.data.toList).map fun n=>Ao 3 ⟨#[]⟩ n 0 false) w):=by
 have h2:=Two.start w 3 ⟨#[]⟩ 0 0 false;have hp:=fun W (hW:Below w.heap.size w W)=>F5 t (by omega) W (hN.below hW);cases hw:wP t.data.toList with
 | none=>
   rw [hw] at hp;replace hp:=Hd hp;replace h2:=Hd h2;clear hw hN
   go_enter Tryz.func71,Tryz.ntmps71
   go_wp2_with fail
   refine (hp.out _ h2.out.below).mono ?_;rintro e w3 ⟨rfl,hb⟩;have h3:=h2.out.move hb;have z:=h3.blk1.frz 2 none;have c2:=h3.full 2 _ rfl;rw [Nat.zero_add] at c2;have h4:=h3.set2 0;replace h4:=Hd h4;clear hb h3;simp only [Option.getD_none,Option.isSome_none,Bool.false_eq_true,if_false];go_wp2_with fail
   refine (Ax _).mono ?_;rintro e w' ⟨rfl,hww⟩;obtain rfl:=hww.symm;exact ⟨rfl,D9 rfl h4.out.below⟩
 | some n=>
   rw [hw] at hp;replace hp:=Hd hp;have hck:=Cq 3 ⟨#[]⟩ n 0 false (by decide) (by decide);clear hw hN;by_cases ok:okV (Ao 3 ⟨#[]⟩ n 0 false)=true
   · rw [if_pos ok] at hck
     replace hck:=Hd hck;replace ok:=Hd ok;replace h2:=Hd h2
     go_enter Tryz.func71,Tryz.ntmps71
     go_wp2_with fail
     refine (hp.out _ h2.out.below).mono ?_;rintro e w3 ⟨rfl,hb⟩;have h3:=h2.out.move hb;have z:=h3.blk1.frz 2 none;have h4:=h3.set2 n;have c0:=h3.full 0 _ rfl;have c1:=h3.full 1 _ rfl;have c2:=h3.full 2 _ rfl;have c3:=h3.full 3 _ rfl;have c4:=h3.full 4 _ rfl;have c5:=h3.full 5 _ rfl;rw [Nat.zero_add] at c0 c1 c2 c3 c4 c5;replace h4:=Hd h4;clear hb h3
     (simp only [Option.getD_some,Option.isSome_some,if_true])
     go_wp2_with fail
     refine (hck.out _).mono ?_;rintro e w5 ⟨rfl,hb⟩;have h3:=h4.out.move hb;clear hb c0 c1 c2 c3 c4 c5 z;obtain ⟨w3,hw3⟩:∃w3,w3=w5:=⟨_,rfl⟩;rw [<-hw3] at h3 ⊢;replace hw3:=Hd hw3;have hrR:(w3.setCells w.heap.size 0 [.int .i64 3,.string (⟨#[]⟩:ByteArray),.int .i64 n,.float .f64 0,.bool false,.slice none 0 0]).rangeAt w.heap.size 0 [.int .i64 3,.string (⟨#[]⟩:ByteArray),.int .i64 n,.float .f64 0,.bool false,.slice none 0 0]:=
       World.rangeAt_setCells_same _ _ _ _ (Ae (n:=6) h3.zero h3.blk rfl)
     have htC:=Ae (n:=6) h3.zero h3.blk rfl;have hfu:=h3.full;have hbl:Below w.heap.size w (w3.setCells w.heap.size 0 [.int .i64 3,.string (⟨#[]⟩:ByteArray),.int .i64 n,.float .f64 0,.bool false,.slice none 0 0]):=
       h3.below.trans ((Fr.setCells (S:=fun k=>k=w.heap.size) (fun _=>rfl) _ _ _ (Fr.refl _ w3)).below h3.below.size (fun i hi h=>by omega))
     replace hrR:=Hd hrR;replace htC:=Hd htC;replace hfu:=Hd hfu;replace hbl:=Hd hbl;replace h3:=Hd h3
     go_wp2_with (first
       | (refine wpList_load_mid rfl 26 _ rfl (w.heap.size+1) 0 rfl _ _ hfu.out Tryz.underlying26 rfl Ab ?_)
       | (refine wpList_store_mid rfl 26 _ _ rfl w.heap.size 0 _ rfl rfl htC.out Ab (one6 _ _ _ _ _ _ _ _) ?_))
     refine bodyPost_ret (Av (v:=.agg #[.int .i64 3,.string (⟨#[]⟩:ByteArray),.int .i64 n,.float .f64 0,.bool false,.slice none 0 0]) rfl rfl (run_loadVar_mid (P:=Tryz.prog) _ _ 0 26 _ _ hrR.out Tryz.underlying26 rfl Ab)) rfl ?_;exact Cz ok.out rfl hbl.out
   · rw [if_neg ok] at hck
     replace hck:=Hd hck;replace ok:=Hd ok;replace h2:=Hd h2
     go_enter Tryz.func71,Tryz.ntmps71
     go_wp2_with fail
     refine (hp.out _ h2.out.below).mono ?_;rintro e w3 ⟨rfl,hb⟩;have h3:=h2.out.move hb;have z:=h3.blk1.frz 2 none;have h4:=h3.set2 n;have c0:=h3.full 0 _ rfl;have c1:=h3.full 1 _ rfl;have c2:=h3.full 2 _ rfl;have c3:=h3.full 3 _ rfl;have c4:=h3.full 4 _ rfl;have c5:=h3.full 5 _ rfl;rw [Nat.zero_add] at c0 c1 c2 c3 c4 c5;replace h4:=Hd h4;clear hb h3
     (simp only [Option.getD_some,Option.isSome_some,if_true])
     go_wp2_with fail
     refine (hck.out _).mono ?_;rintro e w5 ⟨rfl,hb⟩;have h3:=h4.out.move hb;clear hb c0 c1 c2 c3 c4 c5 z;obtain ⟨w3,hw3⟩:∃w3,w3=w5:=⟨_,rfl⟩;rw [<-hw3] at h3 ⊢;replace hw3:=Hd hw3;replace h3:=Hd h3;go_wp2_with fail
     refine (Ax _).mono ?_;rintro e w' ⟨rfl,hww⟩;obtain rfl:=hww.symm;exact ⟨rfl,Ef ok.out rfl h3.out.below⟩
set_option maxRecDepth 100000 in
set_option maxHeartbeats 3200000 in
theorem short_7 {w:World} {t:ByteArray} {o:Option Nat} (hp:∀W,Below w.heap.size w W->Calls Tryz.prog 90 #[.string t] W (RealQ o W)):Calls Tryz.prog 71 #[.int .i64 7,.string t] w (B6 (o.map fun r=>Ao 7 ⟨#[]⟩ 0 r false) w):=by
 have h2:=Two.start w 7 ⟨#[]⟩ 0 0 false;cases o with
 | none=>
   replace hp:=Hd hp;replace h2:=Hd h2
   go_enter Tryz.func71,Tryz.ntmps71
   go_wp2_with fail
   refine (hp.out _ h2.out.below).mono ?_;rintro e w3 ⟨⟨x,rfl⟩,hb⟩;have h3:=h2.out.move hb;have z:=h3.blk1.frz 3 none;have c2:=h3.full 3 _ rfl;rw [Nat.zero_add] at c2;have h4:=h3.set3 x;replace h4:=Hd h4;clear hb h3;go_wp2_with fail
   refine (Ax _).mono ?_;rintro e w' ⟨rfl,hww⟩;obtain rfl:=hww.symm;exact ⟨rfl,D9 rfl h4.out.below⟩
 | some n=>
   replace hp:=Hd hp;have hck:=Cq 7 ⟨#[]⟩ 0 n false (by decide) (by decide);by_cases ok:okV (Ao 7 ⟨#[]⟩ 0 n false)=true
   · rw [if_pos ok] at hck
     replace hck:=Hd hck;replace ok:=Hd ok;replace h2:=Hd h2
     go_enter Tryz.func71,Tryz.ntmps71
     go_wp2_with fail
     refine (hp.out _ h2.out.below).mono ?_;rintro e w3 ⟨rfl,hb⟩;have h3:=h2.out.move hb;have z:=h3.blk1.frz 3 none;have h4:=h3.set3 n;have c0:=h3.full 0 _ rfl;have c1:=h3.full 1 _ rfl;have c2:=h3.full 2 _ rfl;have c3:=h3.full 3 _ rfl;have c4:=h3.full 4 _ rfl;have c5:=h3.full 5 _ rfl;rw [Nat.zero_add] at c0 c1 c2 c3 c4 c5;replace h4:=Hd h4;clear hb h3
     skip
     go_wp2_with fail
     refine (hck.out _).mono ?_;rintro e w5 ⟨rfl,hb⟩;have h3:=h4.out.move hb;clear hb c0 c1 c2 c3 c4 c5 z;obtain ⟨w3,hw3⟩:∃w3,w3=w5:=⟨_,rfl⟩;rw [<-hw3] at h3 ⊢;replace hw3:=Hd hw3;have hrR:(w3.setCells w.heap.size 0 [.int .i64 7,.string (⟨#[]⟩:ByteArray),.int .i64 0,.float .f64 n,.bool false,.slice none 0 0]).rangeAt w.heap.size 0 [.int .i64 7,.string (⟨#[]⟩:ByteArray),.int .i64 0,.float .f64 n,.bool false,.slice none 0 0]:=
       World.rangeAt_setCells_same _ _ _ _ (Ae (n:=6) h3.zero h3.blk rfl)
     have htC:=Ae (n:=6) h3.zero h3.blk rfl;have hfu:=h3.full;have hbl:Below w.heap.size w (w3.setCells w.heap.size 0 [.int .i64 7,.string (⟨#[]⟩:ByteArray),.int .i64 0,.float .f64 n,.bool false,.slice none 0 0]):=
       h3.below.trans ((Fr.setCells (S:=fun k=>k=w.heap.size) (fun _=>rfl) _ _ _ (Fr.refl _ w3)).below h3.below.size (fun i hi h=>by omega))
     replace hrR:=Hd hrR;replace htC:=Hd htC;replace hfu:=Hd hfu;replace hbl:=Hd hbl;replace h3:=Hd h3
     go_wp2_with (first
       | (refine wpList_load_mid rfl 26 _ rfl (w.heap.size+1) 0 rfl _ _ hfu.out Tryz.underlying26 rfl Ab ?_)
       | (refine wpList_store_mid rfl 26 _ _ rfl w.heap.size 0 _ rfl rfl htC.out Ab (one6 _ _ _ _ _ _ _ _) ?_))
     refine bodyPost_ret (Av (v:=.agg #[.int .i64 7,.string (⟨#[]⟩:ByteArray),.int .i64 0,.float .f64 n,.bool false,.slice none 0 0]) rfl rfl (run_loadVar_mid (P:=Tryz.prog) _ _ 0 26 _ _ hrR.out Tryz.underlying26 rfl Ab)) rfl ?_;exact Cz ok.out rfl hbl.out
   · rw [if_neg ok] at hck
     replace hck:=Hd hck;replace ok:=Hd ok;replace h2:=Hd h2
     go_enter Tryz.func71,Tryz.ntmps71
     go_wp2_with fail
     refine (hp.out _ h2.out.below).mono ?_;rintro e w3 ⟨rfl,hb⟩;have h3:=h2.out.move hb;have z:=h3.blk1.frz 3 none;have h4:=h3.set3 n;have c0:=h3.full 0 _ rfl;have c1:=h3.full 1 _ rfl;have c2:=h3.full 2 _ rfl;have c3:=h3.full 3 _ rfl;have c4:=h3.full 4 _ rfl;have c5:=h3.full 5 _ rfl;rw [Nat.zero_add] at c0 c1 c2 c3 c4 c5;replace h4:=Hd h4;clear hb h3
     skip
     go_wp2_with fail
     refine (hck.out _).mono ?_;rintro e w5 ⟨rfl,hb⟩;have h3:=h4.out.move hb;clear hb c0 c1 c2 c3 c4 c5 z;obtain ⟨w3,hw3⟩:∃w3,w3=w5:=⟨_,rfl⟩;rw [<-hw3] at h3 ⊢;replace hw3:=Hd hw3;replace h3:=Hd h3;go_wp2_with fail
     refine (Ax _).mono ?_;rintro e w' ⟨rfl,hww⟩;obtain rfl:=hww.symm;exact ⟨rfl,Ef ok.out rfl h3.out.below⟩
theorem Dh (f:Bool):okV (Ao 8 ⟨#[]⟩ 0 0 f)=true:=by cases f<;>decide +kernel
theorem E5:okV (Ao 6 ⟨#[]⟩ 0 0 false)=true:=by decide +kernel
set_option maxRecDepth 100000 in
set_option maxHeartbeats 3200000 in
theorem short_t {w:World}:Calls Tryz.prog 71 #[.int .i64 8,.string ⟨#[116]⟩] w (B6 (some (Ao 8 ⟨#[]⟩ 0 0 true)) w):=by
 have h2:=Two.start w 8 ⟨#[]⟩ 0 0 true;have hck:=Cq 8 ⟨#[]⟩ 0 0 true (by decide) (by decide);rw [if_pos (Dh true)] at hck;replace hck:=Hd hck;replace h2:=Hd h2
 go_enter Tryz.func71,Tryz.ntmps71
 go_wp2_with fail
 refine (hck.out _).mono ?_;rintro e w3 ⟨rfl,hb⟩;have h3:=h2.out.move hb;clear hb;have hrR:(w3.setCells w.heap.size 0 [.int .i64 8,.string (⟨#[]⟩:ByteArray),.int .i64 0,.float .f64 0,.bool true,.slice none 0 0]).rangeAt w.heap.size 0 [.int .i64 8,.string (⟨#[]⟩:ByteArray),.int .i64 0,.float .f64 0,.bool true,.slice none 0 0]:=
   World.rangeAt_setCells_same _ _ _ _ (Ae (n:=6) h3.zero h3.blk rfl)
 have htC:=Ae (n:=6) h3.zero h3.blk rfl;have hfu:=h3.full;have hbl:Below w.heap.size w (w3.setCells w.heap.size 0 [.int .i64 8,.string (⟨#[]⟩:ByteArray),.int .i64 0,.float .f64 0,.bool true,.slice none 0 0]):=
   h3.below.trans ((Fr.setCells (S:=fun k=>k=w.heap.size) (fun _=>rfl) _ _ _ (Fr.refl _ w3)).below h3.below.size (fun i hi h=>by omega))
 replace hrR:=Hd hrR;replace htC:=Hd htC;replace hfu:=Hd hfu;replace hbl:=Hd hbl;replace h3:=Hd h3
 go_wp2_with (first
   | (refine wpList_load_mid rfl 26 _ rfl (w.heap.size+1) 0 rfl _ _ hfu.out Tryz.underlying26 rfl Ab ?_)
   | (refine wpList_store_mid rfl 26 _ _ rfl w.heap.size 0 _ rfl rfl htC.out Ab (one6 _ _ _ _ _ _ _ _) ?_))
 refine bodyPost_ret (Av (v:=.agg #[.int .i64 8,.string (⟨#[]⟩:ByteArray),.int .i64 0,.float .f64 0,.bool true,.slice none 0 0]) rfl rfl (run_loadVar_mid (P:=Tryz.prog) _ _ 0 26 _ _ hrR.out Tryz.underlying26 rfl Ab)) rfl ?_;exact Cz (Dh true) rfl hbl.out
set_option maxRecDepth 100000 in
set_option maxHeartbeats 3200000 in
theorem short_f {w:World}:Calls Tryz.prog 71 #[.int .i64 8,.string ⟨#[102]⟩] w (B6 (some (Ao 8 ⟨#[]⟩ 0 0 false)) w):=by
 have h2:=Two.start w 8 ⟨#[]⟩ 0 0 false;have hck:=Cq 8 ⟨#[]⟩ 0 0 false (by decide) (by decide);rw [if_pos (Dh false)] at hck;replace hck:=Hd hck;replace h2:=Hd h2
 go_enter Tryz.func71,Tryz.ntmps71
 go_wp2_with fail
 refine (hck.out _).mono ?_;rintro e w3 ⟨rfl,hb⟩;have h3:=h2.out.move hb;clear hb;have hrR:(w3.setCells w.heap.size 0 [.int .i64 8,.string (⟨#[]⟩:ByteArray),.int .i64 0,.float .f64 0,.bool false,.slice none 0 0]).rangeAt w.heap.size 0 [.int .i64 8,.string (⟨#[]⟩:ByteArray),.int .i64 0,.float .f64 0,.bool false,.slice none 0 0]:=
   World.rangeAt_setCells_same _ _ _ _ (Ae (n:=6) h3.zero h3.blk rfl)
 have htC:=Ae (n:=6) h3.zero h3.blk rfl;have hfu:=h3.full;have hbl:Below w.heap.size w (w3.setCells w.heap.size 0 [.int .i64 8,.string (⟨#[]⟩:ByteArray),.int .i64 0,.float .f64 0,.bool false,.slice none 0 0]):=
   h3.below.trans ((Fr.setCells (S:=fun k=>k=w.heap.size) (fun _=>rfl) _ _ _ (Fr.refl _ w3)).below h3.below.size (fun i hi h=>by omega))
 replace hrR:=Hd hrR;replace htC:=Hd htC;replace hfu:=Hd hfu;replace hbl:=Hd hbl;replace h3:=Hd h3
 go_wp2_with (first
   | (refine wpList_load_mid rfl 26 _ rfl (w.heap.size+1) 0 rfl _ _ hfu.out Tryz.underlying26 rfl Ab ?_)
   | (refine wpList_store_mid rfl 26 _ _ rfl w.heap.size 0 _ rfl rfl htC.out Ab (one6 _ _ _ _ _ _ _ _) ?_))
 refine bodyPost_ret (Av (v:=.agg #[.int .i64 8,.string (⟨#[]⟩:ByteArray),.int .i64 0,.float .f64 0,.bool false,.slice none 0 0]) rfl rfl (run_loadVar_mid (P:=Tryz.prog) _ _ 0 26 _ _ hrR.out Tryz.underlying26 rfl Ab)) rfl ?_;exact Cz (Dh false) rfl hbl.out
set_option maxRecDepth 100000 in
set_option maxHeartbeats 3200000 in
theorem short_8no {w:World} {t:ByteArray} (h1:t≠⟨#[116]⟩) (h2' : t≠⟨#[102]⟩):Calls Tryz.prog 71 #[.int .i64 8,.string t] w (B6 none w):=by
 have h2:=Two.start w 8 ⟨#[]⟩ 0 0 false;have y1:(t.toList == [116])=false:=beq_eq_false_iff_ne.2 fun e=>h1 (by rw [ByteArray.toList_eq] at e;exact ByteArray.ext (Array.toList_inj.1 e));have y2:(t.toList == [102])=false:=beq_eq_false_iff_ne.2 fun e=>h2' (by rw [ByteArray.toList_eq] at e;exact ByteArray.ext (Array.toList_inj.1 e));have y3:(t.toList != [116])=true:=by simp [bne,y1]
 have y4:(t.toList != [102])=true:=by simp [bne,y2]
 replace h2:=Hd h2;replace h1:=Hd h1;replace h2' := Hd h2'
 go_enter Tryz.func71,Tryz.ntmps71
 go_wp2_with fail
 refine (Ax _).mono ?_;rintro e w' ⟨rfl,hww⟩;obtain rfl:=hww.symm;exact ⟨rfl,D9 rfl h2.out.below⟩
set_option maxRecDepth 100000 in
set_option maxHeartbeats 3200000 in
theorem short_6 {w:World}:Calls Tryz.prog 71 #[.int .i64 6,.string ⟨#[]⟩] w (B6 (some (Ao 6 ⟨#[]⟩ 0 0 false)) w):=by
 have h2:=Two.start w 6 ⟨#[]⟩ 0 0 false;have hck:=Cq 6 ⟨#[]⟩ 0 0 false (by decide) (by decide);rw [if_pos E5] at hck;replace hck:=Hd hck;replace h2:=Hd h2
 go_enter Tryz.func71,Tryz.ntmps71
 go_wp2_with fail
 refine (hck.out _).mono ?_;rintro e w3 ⟨rfl,hb⟩;have h3:=h2.out.move hb;clear hb;have hrR:(w3.setCells w.heap.size 0 [.int .i64 6,.string (⟨#[]⟩:ByteArray),.int .i64 0,.float .f64 0,.bool false,.slice none 0 0]).rangeAt w.heap.size 0 [.int .i64 6,.string (⟨#[]⟩:ByteArray),.int .i64 0,.float .f64 0,.bool false,.slice none 0 0]:=
   World.rangeAt_setCells_same _ _ _ _ (Ae (n:=6) h3.zero h3.blk rfl)
 have htC:=Ae (n:=6) h3.zero h3.blk rfl;have hfu:=h3.full;have hbl:Below w.heap.size w (w3.setCells w.heap.size 0 [.int .i64 6,.string (⟨#[]⟩:ByteArray),.int .i64 0,.float .f64 0,.bool false,.slice none 0 0]):=
   h3.below.trans ((Fr.setCells (S:=fun k=>k=w.heap.size) (fun _=>rfl) _ _ _ (Fr.refl _ w3)).below h3.below.size (fun i hi h=>by omega))
 replace hrR:=Hd hrR;replace htC:=Hd htC;replace hfu:=Hd hfu;replace hbl:=Hd hbl;replace h3:=Hd h3
 go_wp2_with (first
   | (refine wpList_load_mid rfl 26 _ rfl (w.heap.size+1) 0 rfl _ _ hfu.out Tryz.underlying26 rfl Ab ?_)
   | (refine wpList_store_mid rfl 26 _ _ rfl w.heap.size 0 _ rfl rfl htC.out Ab (one6 _ _ _ _ _ _ _ _) ?_))
 refine bodyPost_ret (Av (v:=.agg #[.int .i64 6,.string (⟨#[]⟩:ByteArray),.int .i64 0,.float .f64 0,.bool false,.slice none 0 0]) rfl rfl (run_loadVar_mid (P:=Tryz.prog) _ _ 0 26 _ _ hrR.out Tryz.underlying26 rfl Ab)) rfl ?_;exact Cz E5 rfl hbl.out
set_option maxRecDepth 100000 in
set_option maxHeartbeats 3200000 in
theorem short_6no {w:World} {t:ByteArray} (h1:t≠⟨#[]⟩):Calls Tryz.prog 71 #[.int .i64 6,.string t] w (B6 none w):=by
 have h2:=Two.start w 6 ⟨#[]⟩ 0 0 false;have y0:¬t.toList=[]:=fun e=>h1 (by rw [ByteArray.toList_eq] at e;exact ByteArray.ext (Array.toList_inj.1 e));have y1:(t.toList == [])=false:=beq_eq_false_iff_ne.2 y0;have y3:(t.toList != [])=true:=by simp [bne,y1]
 have y4:t.toList.isEmpty=false:=by cases hh:t.toList.isEmpty with | false=>rfl | true=>exact absurd (List.isEmpty_iff.1 hh) y0
 replace h2:=Hd h2
 go_enter Tryz.func71,Tryz.ntmps71
 go_wp2_with fail
 refine (Ax _).mono ?_;rintro e w' ⟨rfl,hww⟩;obtain rfl:=hww.symm;exact ⟨rfl,D9 rfl h2.out.below⟩
def Cd (ro:Option Nat) (k:Nat) (t:ByteArray):Option V:=
 if k=1\/k=2\/k=9 then some (Ao k t 0 0 false)
 else if k=3 then (wP t.data.toList).map fun n=>Ao 3 ⟨#[]⟩ n 0 false
 else if k=7 then ro.map fun r=>Ao 7 ⟨#[]⟩ 0 r false
 else if k=8 then (if t=⟨#[116]⟩ then some (Ao 8 ⟨#[]⟩ 0 0 true) else if t=⟨#[102]⟩ then some (Ao 8 ⟨#[]⟩ 0 0 false) else none)
 else if t=⟨#[]⟩ then some (Ao 6 ⟨#[]⟩ 0 0 false) else none
theorem short_any {w:World} {k:Nat} {t:ByteArray} {o:Option Nat} (hk:k=1\/k=2\/k=9\/k=3\/k=7\/k=8\/k=6) (ht:t.size<=1000000) (hN:Nums w) (hp:k=7->∀W,Below w.heap.size w W->Calls Tryz.prog 90 #[.string t] W (RealQ o W)) :
   Calls Tryz.prog 71 #[.int .i64 (k:Int),.string t] w (B6 (Cd o k t) w):=by
 unfold Cd
 rcases hk with rfl | rfl | rfl | rfl | rfl | rfl | rfl
 · exact short_1 ht
 · exact short_2 ht
 · exact short_9 ht
 · exact short_3 ht hN
 · exact short_7 (hp rfl)
 · rw [if_neg (by decide),if_neg (by decide),if_neg (by decide),if_pos (by decide)]
   by_cases h1:t=⟨#[116]⟩
   · rw [if_pos h1,h1];exact short_t
   · rw [if_neg h1]
     by_cases h2:t=⟨#[102]⟩
     · rw [if_pos h2,h2];exact short_f
     · rw [if_neg h2];exact short_8no h1 h2
 · rw [if_neg (by decide),if_neg (by decide),if_neg (by decide),if_neg (by decide)]
   by_cases h1:t=⟨#[]⟩
   · rw [if_pos h1,h1];exact short_6
   · rw [if_neg h1];exact short_6no h1
structure Rp where
 f:List UInt8->Option Nat
 K:List UInt8->Prop
instance:CoeFun Rp (fun _=>List UInt8->Option Nat):=⟨Rp.f⟩
inductive Head where
 | stop (e:Nat)
 | leaf (v:V) (used:Nat)
 | list (kind n used:Nat)
def A1 (rp:Rp):List UInt8->Head
 | []=>.stop 0
 | c :: L=>
   if Ac c=0 then .stop 51 else
   match Aw L with
   | .stop e=>.stop e
   | .got (t,u)=>
     if t=[45,49]/\(Ac c=4\/Ac c=5) then .leaf (Ao 6 ⟨#[]⟩ 0 0 false) (1+u)
     else if Ac c=4\/Ac c=10\/Ac c=11 then
       match numS t 4096 with
       | none=>.stop 51
       | some n=>match Bw (L.drop u) n with
         | .stop e=>.stop e
         | .got s=>if okV (Ao (Ac c) ⟨s.toArray⟩ 0 0 false)=true then .leaf (Ao (Ac c) ⟨s.toArray⟩ 0 0 false) (1+u+(n+2)) else .stop 51
     else if Ac c=5\/Ac c=13\/Ac c=14 then
       match numS t 1000 with
       | none=>.stop 51
       | some n=>.list (Ac c) n (1+u)
     else if Ac c=12 then
       match numS t 1000 with
       | none=>.stop 51
       | some n=>.list 12 (2 * n) (1+u)
     else match Cd (rp t) (Ac c) ⟨t.toArray⟩ with
       | none=>.stop 51
       | some v=>if okV v=true then .leaf v (1+u) else .stop 51
def Ba (f:Nat->List UInt8->Out (V × Nat × Nat)):Nat->Nat->List UInt8->Out (List V × Nat × Nat)
 | 0,many,_=>.got ([],0,many)
 | n+1,many,L=>match f many L with
   | .stop e=>.stop e
   | .got (v,u,m)=>match Ba f n m (L.drop u) with
     | .stop e=>.stop e
     | .got (l,u2,m2)=>.got (v :: l,u+u2,m2)
def At (rp:Rp):Nat->Nat->List UInt8->Out (V × Nat × Nat)
 | 0,many,L=>match A1 rp L with
   | .stop e=>.stop e
   | .leaf v u=>.got (v,u,many)
   | .list _ _ _=>.stop 51
 | lv+1,many,L=>match A1 rp L with
   | .stop e=>.stop e
   | .leaf v u=>.got (v,u,many)
   | .list kd n u=>
     if 1000<many+n\/(kd=14/\(n=0\/lv<7)) then .stop 51
     else match Ba (At rp lv) n (many+n) (L.drop u) with
       | .stop e=>.stop e
       | .got (l,u2,m2)=>.got (.mk kd ⟨#[]⟩ 0 0 false l,u+u2,m2)
def needH (rp:Rp) (L:List UInt8):Prop:=∀(c:UInt8) (L' t:List UInt8) (u:Nat),L=c :: L' -> Ac c=7->Aw L' = .got (t,u)->rp.K t
def needN (need:Nat->List UInt8->Prop) (f:Nat->List UInt8->Out (V × Nat × Nat)):Nat->Nat->List UInt8->Prop
 | 0,_,_=>True
 | n+1,m,L=>need m L/\∀(v:V) (u m' : Nat),f m L=.got (v,u,m')->needN need f n m' (L.drop u)
def C6 (rp:Rp):Nat->Nat->List UInt8->Prop
 | 0,_,L=>needH rp L
 | lv+1,m,L=>needH rp L/\∀(kd n u:Nat),A1 rp L=.list kd n u->needN (C6 rp lv) (At rp lv) n (m+n) (L.drop u)
theorem needV_head {rp:Rp} {lv m:Nat} {L:List UInt8} (h:C6 rp lv m L):needH rp L:=by
 cases lv with
 | zero=>exact h
 | succ lv=>exact h.1
structure Env (rp:Rp) (w0:World) (s:ByteArray):Prop where
 nums:Nums w0
 real:∀W,Below w0.heap.size w0 W->∀(t:List UInt8),rp.K t->Calls Tryz.prog 90 #[.string ⟨t.toArray⟩] W (RealQ (rp t) W)
structure RS (rp:Rp) (w0 w:World) (g b o n cap:Nat) (s:ByteArray) (at_ many:Nat):Prop where
 scan:Scan w g b o n cap s at_ many
 env:Env rp w0 s
 below:Below w0.heap.size w0 w
 base:w0.heap.size<=g
 le:at_<=n
theorem RS.next {rp:Rp} {w0 w w' : World} {g b o n cap at_ many at2 many2:Nat} {s:ByteArray} (h:RS rp w0 w g b o n cap s at_ many) (hf:Fr (fun k=>k=g) w w') (hs:Scan w' g b o n cap s at2 many2) (hl:at2<=n):RS rp w0 w' g b o n cap s at2 many2:=
 ⟨hs,h.env,h.below.trans (hf.below h.below.size (fun i hi e=>by have:=h.base;omega)),h.base,hl⟩
theorem Ai {w w' : World} {g:Nat} (h:Below w.heap.size w w'):Fr (fun k=>k=g) w w' := (Fr.of_below h).mono (fun i hi h=>absurd hi (Nat.not_lt_of_le h))
theorem RS.grow {rp:Rp} {w0 w w' : World} {g b o n cap at_ many:Nat} {s:ByteArray} (h:RS rp w0 w g b o n cap s at_ many) (hb:Below w.heap.size w w'):RS rp w0 w' g b o n cap s at_ many:=by
 have hblt:g<w.heap.size:=h.scan.blk.lt;refine h.next (Ai hb) ⟨?_,?_,?_,?_,?_,h.scan.size,h.scan.ne,h.scan.room,h.scan.big⟩ h.le
 · rw [hb.cell (World.block_lt_of_cell? _ _ h.scan.c0)];exact h.scan.c0
 · rw [hb.cell (World.block_lt_of_cell? _ _ h.scan.c1)];exact h.scan.c1
 · rw [hb.cell (World.block_lt_of_cell? _ _ h.scan.c2)];exact h.scan.c2
 · exact h.scan.blk.of_block (hb.block _ hblt)
 · exact Bo h.scan.bytes hb
theorem RS.nums {rp:Rp} {w0 w:World} {g b o n cap at_ many:Nat} {s:ByteArray} (h:RS rp w0 w g b o n cap s at_ many):Nums w:=h.env.nums.below h.below
def ValQ (rp:Rp) (w0:World) (g b o n cap:Nat) (s:ByteArray) (at_:Nat) (out:Out (V × Nat × Nat)) (w:World) (e:Ending) (w' : World):Prop:=
 match out with
 | .stop q=>e=B1 q/\Fr (fun k=>k=g) w w'
 | .got (v,u,m)=>∃(a:Option Addr) (ca:Nat),e=.returned (.agg #[.int .i64 v.kind,.string v.text,.int .i64 v.int,.float .f64 v.real,.bool v.flag,.slice a v.list.length ca]) /\
     RV (A5 w.heap.size w') (An v.kind v.text v.int v.real v.flag a v.list.length ca) v/\Fr (fun k=>k=g) w w' /\ RS rp w0 w' g b o n cap s (at_+u) m
end Go.Proofs.YtagkgfniihiinaaGreatDoor
