/- The reader: a value that is a line. -/
import Derived.Test.YtagkgfniihiinaaGreatDoorRdG
import Derived.Test.YtagkgfniihiinaaGreatDoorJ64
import Derived.Test.YtagkgfniihiinaaGreatDoorJ52
import Derived.Deep.RegionHeld3
set_option linter.all false
namespace Go.Proofs.YtagkgfniihiinaaGreatDoor
open Go.RowKit
def Ay (k:Int) (t:ByteArray) (i:Int) (r:Nat) (f:Bool):V:=.mk k t i r f []
theorem leaf_check (k:Int) (t:ByteArray) (i:Int) (r:Nat) (f:Bool) (hk:Ak k=false):E7 (Ay k t i r f)=if okV (Ay k t i r f)=true then 0 else 31:=by
 unfold E7 Ay;have h:V.fine (.mk k t i r f []) 8=okV (.mk k t i r f []):=by simp [V.fine,V.fineL,hk]
 rw [h];simp [V.count,V.countL]
theorem Ct (k:Int) (t:ByteArray) (i:Int) (r:Nat) (f:Bool) (hk:Ak k=false) (ht:t.size<=9223372036854775807) (w:World) :
   Calls Tryz.prog 69 #[.agg #[.int .i64 k,.string t,.int .i64 i,.float .f64 r,.bool f,.slice none 0 0]] w fun e w' => e=.returned (.int .i64 (if okV (Ay k t i r f)=true then 0 else 31))/\Below w.heap.size w w' := by
 rw [<-leaf_check k t i r f hk]
 exact check_any (Ay k t i r f) none 0 w (RV.leaf _ _ _ _ _ _ _ _) ((V.sized_eq _).2 ⟨ht,trivial⟩) (by simp [Ay,V.count,V.countL])
def Cb (o:Option V) (w:World) (e:Ending) (w' : World):Prop:=
 (match o with
   | some v=>if okV v=true then e=.returned (.agg #[.int .i64 v.kind,.string v.text,.int .i64 v.int,.float .f64 v.real,.bool v.flag,.slice none 0 0]) else e=B8 51
   | none=>e=B8 51)/\Below w.heap.size w w'
theorem De {v:V} {w w' : World} {e:Ending} (ok:okV v=true) (h:e=.returned (.agg #[.int .i64 v.kind,.string v.text,.int .i64 v.int,.float .f64 v.real,.bool v.flag,.slice none 0 0])) (hb:Below w.heap.size w w'):Cb (some v) w e w' := by
 unfold Cb;dsimp only;rw [if_pos ok];exact ⟨h,hb⟩
theorem Fg {v:V} {w w' : World} {e:Ending} (ok:¬okV v=true) (h:e=B8 51) (hb:Below w.heap.size w w'):Cb (some v) w e w' := by
 unfold Cb;dsimp only;rw [if_neg ok];exact ⟨h,hb⟩
theorem E5 {w w' : World} {e:Ending} (h:e=B8 51) (hb:Below w.heap.size w w'):Cb none w e w' := ⟨h,hb⟩
structure Two (w W:World) (k:Int) (t:ByteArray) (i:Int) (r:Nat) (f:Bool):Prop where
 zero:W.rangeAt w.heap.size 0 [.int .i64 0,.string ⟨#[]⟩,.int .i64 0,.float .f64 0,.bool false,.slice none 0 0]
 full:W.rangeAt (w.heap.size+1) 0 [.int .i64 k,.string t,.int .i64 i,.float .f64 r,.bool f,.slice none 0 0]
 blk:Blk W w.heap.size
 blk1:Blk W (w.heap.size+1)
 below:Below w.heap.size w W
theorem Two.start (w:World) (k:Int) (t:ByteArray) (i:Int) (r:Nat) (f:Bool):Two w ((w.alloc (.cells #[.int .i64 0,.string ⟨#[]⟩,.int .i64 0,.float .f64 0,.bool false,.slice none 0 0] 26)).alloc (.cells #[.int .i64 k,.string t,.int .i64 i,.float .f64 r,.bool f,.slice none 0 0] 26)) k t i r f:=by
 have hs:(w.alloc (.cells #[.int .i64 0,.string ⟨#[]⟩,.int .i64 0,.float .f64 0,.bool false,.slice none 0 0] 26)).heap.size=w.heap.size+1:=by simp
 refine ⟨?_,?_,?_,?_,((Below.refl _ _).alloc (Nat.le_refl _) _).alloc (by simp) _⟩
 · intro q x hq
   rw [Nat.zero_add,World.cell?_alloc_past _ _ _ (by simp),World.cell?_alloc_new];simpa using hq
 · intro q x hq
   rw [Nat.zero_add,<-hs,World.cell?_alloc_new];simpa using hq
 · exact (Blk.new w _ _).of_block (by rw [Below.heap_alloc _ _ _ (by simp)])
 · rw [<-hs];exact Blk.new _ _ _
theorem Two.move {w W W' : World} {k:Int} {t:ByteArray} {i:Int} {r:Nat} {f:Bool} (h:Two w W k t i r f) (hb:Below W.heap.size W W'):Two w W' k t i r f:=
 ⟨fun q x hq=>by rw [hb.cell (World.block_lt_of_cell? _ _ (h.zero q x hq))];exact h.zero q x hq,fun q x hq=>by rw [hb.cell (World.block_lt_of_cell? _ _ (h.full q x hq))];exact h.full q x hq,
   h.blk.of_block (hb.block _ h.blk.lt),h.blk1.of_block (hb.block _ h.blk1.lt),h.below.trans (hb.mono h.below.size)⟩
set_option maxRecDepth 100000 in
set_option maxHeartbeats 3200000 in
theorem short_1 {w:World} {t:ByteArray} (ht:t.size<=1000000):Calls Tryz.prog 71 #[.int .i64 1,.string t] w (Cb (some (Ay 1 t 0 0 false)) w):=by
 have hck:=Ct 1 t 0 0 false (by decide) (by omega);have h2:=Two.start w 1 t 0 0 false;by_cases ok:okV (Ay 1 t 0 0 false)=true
 · rw [if_pos ok] at hck
   replace hck:=Hd hck;replace ok:=Hd ok;replace h2:=Hd h2
   go_enter Tryz.func71,Tryz.ntmps71
   go_wp2_with fail
   refine (hck.out _).mono ?_;rintro e w3 ⟨rfl,hb⟩;have h3:=h2.out.move hb;clear hb;have hrR:(w3.setCells w.heap.size 0 [.int .i64 1,.string t,.int .i64 0,.float .f64 0,.bool false,.slice none 0 0]).rangeAt w.heap.size 0 [.int .i64 1,.string t,.int .i64 0,.float .f64 0,.bool false,.slice none 0 0]:=
     World.rangeAt_setCells_same _ _ _ _ (Ao (n:=6) h3.zero h3.blk rfl)
   have htC:=Ao (n:=6) h3.zero h3.blk rfl;have hfu:=h3.full;have hbl:Below w.heap.size w (w3.setCells w.heap.size 0 [.int .i64 1,.string t,.int .i64 0,.float .f64 0,.bool false,.slice none 0 0]):=
     h3.below.trans ((Fr.setCells (S:=fun k=>k=w.heap.size) (fun _=>rfl) _ _ _ (Fr.refl _ w3)).below h3.below.size (fun i hi h=>by omega))
   replace hrR:=Hd hrR;replace htC:=Hd htC;replace hfu:=Hd hfu;replace hbl:=Hd hbl;replace h3:=Hd h3
   go_wp2_with (first
     | (refine wpList_load_mid rfl 26 _ rfl (w.heap.size+1) 0 rfl _ _ hfu.out Tryz.underlying26 rfl Ai ?_)
     | (refine wpList_store_mid rfl 26 _ _ rfl w.heap.size 0 _ rfl rfl htC.out Ai (one6 _ _ _ _ _ _ _ _) ?_))
   refine bodyPost_ret (Ap (v:=.agg #[.int .i64 1,.string t,.int .i64 0,.float .f64 0,.bool false,.slice none 0 0]) rfl rfl (run_loadVar_mid (P:=Tryz.prog) _ _ 0 26 _ _ hrR.out Tryz.underlying26 rfl Ai)) rfl ?_;exact De ok.out rfl hbl.out
 · rw [if_neg ok] at hck
   replace hck:=Hd hck;replace ok:=Hd ok;replace h2:=Hd h2
   go_enter Tryz.func71,Tryz.ntmps71
   go_wp2_with fail
   refine (hck.out _).mono ?_;rintro e w3 ⟨rfl,hb⟩;have h3:=h2.out.move hb;replace h3:=Hd h3;clear hb;go_wp2_with fail
   refine (Av _).mono ?_;rintro e w' ⟨rfl,hww⟩;obtain rfl:=hww.symm;exact ⟨rfl,Fg ok.out rfl h3.out.below⟩
set_option maxRecDepth 100000 in
set_option maxHeartbeats 3200000 in
theorem short_2 {w:World} {t:ByteArray} (ht:t.size<=1000000):Calls Tryz.prog 71 #[.int .i64 2,.string t] w (Cb (some (Ay 2 t 0 0 false)) w):=by
 have hck:=Ct 2 t 0 0 false (by decide) (by omega);have h2:=Two.start w 2 t 0 0 false;by_cases ok:okV (Ay 2 t 0 0 false)=true
 · rw [if_pos ok] at hck
   replace hck:=Hd hck;replace ok:=Hd ok;replace h2:=Hd h2
   go_enter Tryz.func71,Tryz.ntmps71
   go_wp2_with fail
   refine (hck.out _).mono ?_;rintro e w3 ⟨rfl,hb⟩;have h3:=h2.out.move hb;clear hb;have hrR:(w3.setCells w.heap.size 0 [.int .i64 2,.string t,.int .i64 0,.float .f64 0,.bool false,.slice none 0 0]).rangeAt w.heap.size 0 [.int .i64 2,.string t,.int .i64 0,.float .f64 0,.bool false,.slice none 0 0]:=
     World.rangeAt_setCells_same _ _ _ _ (Ao (n:=6) h3.zero h3.blk rfl)
   have htC:=Ao (n:=6) h3.zero h3.blk rfl;have hfu:=h3.full;have hbl:Below w.heap.size w (w3.setCells w.heap.size 0 [.int .i64 2,.string t,.int .i64 0,.float .f64 0,.bool false,.slice none 0 0]):=
     h3.below.trans ((Fr.setCells (S:=fun k=>k=w.heap.size) (fun _=>rfl) _ _ _ (Fr.refl _ w3)).below h3.below.size (fun i hi h=>by omega))
   replace hrR:=Hd hrR;replace htC:=Hd htC;replace hfu:=Hd hfu;replace hbl:=Hd hbl;replace h3:=Hd h3
   go_wp2_with (first
     | (refine wpList_load_mid rfl 26 _ rfl (w.heap.size+1) 0 rfl _ _ hfu.out Tryz.underlying26 rfl Ai ?_)
     | (refine wpList_store_mid rfl 26 _ _ rfl w.heap.size 0 _ rfl rfl htC.out Ai (one6 _ _ _ _ _ _ _ _) ?_))
   refine bodyPost_ret (Ap (v:=.agg #[.int .i64 2,.string t,.int .i64 0,.float .f64 0,.bool false,.slice none 0 0]) rfl rfl (run_loadVar_mid (P:=Tryz.prog) _ _ 0 26 _ _ hrR.out Tryz.underlying26 rfl Ai)) rfl ?_;exact De ok.out rfl hbl.out
 · rw [if_neg ok] at hck
   replace hck:=Hd hck;replace ok:=Hd ok;replace h2:=Hd h2
   go_enter Tryz.func71,Tryz.ntmps71
   go_wp2_with fail
   refine (hck.out _).mono ?_;rintro e w3 ⟨rfl,hb⟩;have h3:=h2.out.move hb;replace h3:=Hd h3;clear hb;go_wp2_with fail
   refine (Av _).mono ?_;rintro e w' ⟨rfl,hww⟩;obtain rfl:=hww.symm;exact ⟨rfl,Fg ok.out rfl h3.out.below⟩
set_option maxRecDepth 100000 in
set_option maxHeartbeats 3200000 in
theorem short_9 {w:World} {t:ByteArray} (ht:t.size<=1000000):Calls Tryz.prog 71 #[.int .i64 9,.string t] w (Cb (some (Ay 9 t 0 0 false)) w):=by
 have hck:=Ct 9 t 0 0 false (by decide) (by omega);have h2:=Two.start w 9 t 0 0 false;by_cases ok:okV (Ay 9 t 0 0 false)=true
 · rw [if_pos ok] at hck
   replace hck:=Hd hck;replace ok:=Hd ok;replace h2:=Hd h2
   go_enter Tryz.func71,Tryz.ntmps71
   go_wp2_with fail
   refine (hck.out _).mono ?_;rintro e w3 ⟨rfl,hb⟩;have h3:=h2.out.move hb;clear hb;have hrR:(w3.setCells w.heap.size 0 [.int .i64 9,.string t,.int .i64 0,.float .f64 0,.bool false,.slice none 0 0]).rangeAt w.heap.size 0 [.int .i64 9,.string t,.int .i64 0,.float .f64 0,.bool false,.slice none 0 0]:=
     World.rangeAt_setCells_same _ _ _ _ (Ao (n:=6) h3.zero h3.blk rfl)
   have htC:=Ao (n:=6) h3.zero h3.blk rfl;have hfu:=h3.full;have hbl:Below w.heap.size w (w3.setCells w.heap.size 0 [.int .i64 9,.string t,.int .i64 0,.float .f64 0,.bool false,.slice none 0 0]):=
     h3.below.trans ((Fr.setCells (S:=fun k=>k=w.heap.size) (fun _=>rfl) _ _ _ (Fr.refl _ w3)).below h3.below.size (fun i hi h=>by omega))
   replace hrR:=Hd hrR;replace htC:=Hd htC;replace hfu:=Hd hfu;replace hbl:=Hd hbl;replace h3:=Hd h3
   go_wp2_with (first
     | (refine wpList_load_mid rfl 26 _ rfl (w.heap.size+1) 0 rfl _ _ hfu.out Tryz.underlying26 rfl Ai ?_)
     | (refine wpList_store_mid rfl 26 _ _ rfl w.heap.size 0 _ rfl rfl htC.out Ai (one6 _ _ _ _ _ _ _ _) ?_))
   refine bodyPost_ret (Ap (v:=.agg #[.int .i64 9,.string t,.int .i64 0,.float .f64 0,.bool false,.slice none 0 0]) rfl rfl (run_loadVar_mid (P:=Tryz.prog) _ _ 0 26 _ _ hrR.out Tryz.underlying26 rfl Ai)) rfl ?_;exact De ok.out rfl hbl.out
 · rw [if_neg ok] at hck
   replace hck:=Hd hck;replace ok:=Hd ok;replace h2:=Hd h2
   go_enter Tryz.func71,Tryz.ntmps71
   go_wp2_with fail
   refine (hck.out _).mono ?_;rintro e w3 ⟨rfl,hb⟩;have h3:=h2.out.move hb;replace h3:=Hd h3;clear hb;go_wp2_with fail
   refine (Av _).mono ?_;rintro e w' ⟨rfl,hww⟩;obtain rfl:=hww.symm;exact ⟨rfl,Fg ok.out rfl h3.out.below⟩
theorem Two.set2 {w W:World} {k:Int} {t:ByteArray} {i:Int} {r:Nat} {f:Bool} (h:Two w W k t i r f) (n:Int):Two w (W.setCell ⟨w.heap.size+1,2,none⟩ (.int .i64 n)) k t n r f:=by
 have g:=fun q x (hq:([.int .i64 k,.string t,.int .i64 i,.float .f64 r,.bool f,.slice none 0 0]:List Value)[q]?=some x)=>h.full q x hq;refine ⟨fun q x hq=>?_,range6 ?_ ?_ (Al (g 2 _ rfl)) ?_ ?_ ?_,h.blk.setCell _ _,h.blk1.setCell _ _,h.below.trans ((Fr.setCell (S:=fun k=>k=w.heap.size+1) (Fr.refl _ _) (fun _=>rfl) _).below h.below.size (fun i hi e=>by omega))⟩
 · rw [Ab (by simp)];exact h.zero q x hq
 · rw [Ab (by simp)];exact g 0 _ rfl
 · rw [Ab (by simp)];exact g 1 _ rfl
 · rw [Ab (by simp)];exact g 3 _ rfl
 · rw [Ab (by simp)];exact g 4 _ rfl
 · rw [Ab (by simp)];exact g 5 _ rfl
theorem Two.set3 {w W:World} {k:Int} {t:ByteArray} {i:Int} {r:Nat} {f:Bool} (h:Two w W k t i r f) (n:Nat):Two w (W.setCell ⟨w.heap.size+1,3,none⟩ (.float .f64 n)) k t i n f:=by
 have g:=fun q x (hq:([.int .i64 k,.string t,.int .i64 i,.float .f64 r,.bool f,.slice none 0 0]:List Value)[q]?=some x)=>h.full q x hq;refine ⟨fun q x hq=>?_,range6 ?_ ?_ ?_ (Al (g 3 _ rfl)) ?_ ?_,h.blk.setCell _ _,h.blk1.setCell _ _,h.below.trans ((Fr.setCell (S:=fun k=>k=w.heap.size+1) (Fr.refl _ _) (fun _=>rfl) _).below h.below.size (fun i hi e=>by omega))⟩
 · rw [Ab (by simp)];exact h.zero q x hq
 · rw [Ab (by simp)];exact g 0 _ rfl
 · rw [Ab (by simp)];exact g 1 _ rfl
 · rw [Ab (by simp)];exact g 2 _ rfl
 · rw [Ab (by simp)];exact g 4 _ rfl
 · rw [Ab (by simp)];exact g 5 _ rfl
def RealQ (o:Option Nat) (w:World) (e:Ending) (w' : World):Prop:=
 (match o with
   | some r=>e=.returned (.tuple #[.float .f64 r,.int .i64 0])
   | none=>∃x,e=.returned (.tuple #[.float .f64 x,.int .i64 21]))/\Below w.heap.size w w'
set_option maxRecDepth 100000 in
set_option maxHeartbeats 3200000 in
theorem short_3 {w:World} {t:ByteArray} (ht:t.size<=1000000) (hN:Nums w):Calls Tryz.prog 71 #[.int .i64 3,.string t] w (Cb ((wP t.data.toList).map fun n=>Ay 3 ⟨#[]⟩ n 0 false) w):=by
 have h2:=Two.start w 3 ⟨#[]⟩ 0 0 false;have hp:=fun W (hW:Below w.heap.size w W)=>wparse_any t (by omega) W (hN.below hW);cases hw:wP t.data.toList with
 | none=>
   rw [hw] at hp;replace hp:=Hd hp;replace h2:=Hd h2;clear hw hN
   go_enter Tryz.func71,Tryz.ntmps71
   go_wp2_with fail
   refine (hp.out _ h2.out.below).mono ?_;rintro e w3 ⟨rfl,hb⟩;have h3:=h2.out.move hb;have z:=h3.blk1.frz 2 none;have c2:=h3.full 2 _ rfl;rw [Nat.zero_add] at c2;have h4:=h3.set2 0;replace h4:=Hd h4;clear hb h3;simp only [Option.getD_none,Option.isSome_none,Bool.false_eq_true,if_false];go_wp2_with fail
   refine (Av _).mono ?_;rintro e w' ⟨rfl,hww⟩;obtain rfl:=hww.symm;exact ⟨rfl,E5 rfl h4.out.below⟩
 | some n=>
   rw [hw] at hp;replace hp:=Hd hp;have hck:=Ct 3 ⟨#[]⟩ n 0 false (by decide) (by decide);clear hw hN;by_cases ok:okV (Ay 3 ⟨#[]⟩ n 0 false)=true
   · rw [if_pos ok] at hck
     replace hck:=Hd hck;replace ok:=Hd ok;replace h2:=Hd h2
     go_enter Tryz.func71,Tryz.ntmps71
     go_wp2_with fail
     refine (hp.out _ h2.out.below).mono ?_;rintro e w3 ⟨rfl,hb⟩;have h3:=h2.out.move hb;have z:=h3.blk1.frz 2 none;have h4:=h3.set2 n;have c0:=h3.full 0 _ rfl;have c1:=h3.full 1 _ rfl;have c2:=h3.full 2 _ rfl;have c3:=h3.full 3 _ rfl;have c4:=h3.full 4 _ rfl;have c5:=h3.full 5 _ rfl;rw [Nat.zero_add] at c0 c1 c2 c3 c4 c5;replace h4:=Hd h4;clear hb h3
     (simp only [Option.getD_some,Option.isSome_some,if_true])
     go_wp2_with fail
     refine (hck.out _).mono ?_;rintro e w5 ⟨rfl,hb⟩;have h3:=h4.out.move hb;clear hb c0 c1 c2 c3 c4 c5 z;obtain ⟨w3,hw3⟩:∃w3,w3=w5:=⟨_,rfl⟩;rw [<-hw3] at h3 ⊢;replace hw3:=Hd hw3;have hrR:(w3.setCells w.heap.size 0 [.int .i64 3,.string (⟨#[]⟩:ByteArray),.int .i64 n,.float .f64 0,.bool false,.slice none 0 0]).rangeAt w.heap.size 0 [.int .i64 3,.string (⟨#[]⟩:ByteArray),.int .i64 n,.float .f64 0,.bool false,.slice none 0 0]:=
       World.rangeAt_setCells_same _ _ _ _ (Ao (n:=6) h3.zero h3.blk rfl)
     have htC:=Ao (n:=6) h3.zero h3.blk rfl;have hfu:=h3.full;have hbl:Below w.heap.size w (w3.setCells w.heap.size 0 [.int .i64 3,.string (⟨#[]⟩:ByteArray),.int .i64 n,.float .f64 0,.bool false,.slice none 0 0]):=
       h3.below.trans ((Fr.setCells (S:=fun k=>k=w.heap.size) (fun _=>rfl) _ _ _ (Fr.refl _ w3)).below h3.below.size (fun i hi h=>by omega))
     replace hrR:=Hd hrR;replace htC:=Hd htC;replace hfu:=Hd hfu;replace hbl:=Hd hbl;replace h3:=Hd h3
     go_wp2_with (first
       | (refine wpList_load_mid rfl 26 _ rfl (w.heap.size+1) 0 rfl _ _ hfu.out Tryz.underlying26 rfl Ai ?_)
       | (refine wpList_store_mid rfl 26 _ _ rfl w.heap.size 0 _ rfl rfl htC.out Ai (one6 _ _ _ _ _ _ _ _) ?_))
     refine bodyPost_ret (Ap (v:=.agg #[.int .i64 3,.string (⟨#[]⟩:ByteArray),.int .i64 n,.float .f64 0,.bool false,.slice none 0 0]) rfl rfl (run_loadVar_mid (P:=Tryz.prog) _ _ 0 26 _ _ hrR.out Tryz.underlying26 rfl Ai)) rfl ?_;exact De ok.out rfl hbl.out
   · rw [if_neg ok] at hck
     replace hck:=Hd hck;replace ok:=Hd ok;replace h2:=Hd h2
     go_enter Tryz.func71,Tryz.ntmps71
     go_wp2_with fail
     refine (hp.out _ h2.out.below).mono ?_;rintro e w3 ⟨rfl,hb⟩;have h3:=h2.out.move hb;have z:=h3.blk1.frz 2 none;have h4:=h3.set2 n;have c0:=h3.full 0 _ rfl;have c1:=h3.full 1 _ rfl;have c2:=h3.full 2 _ rfl;have c3:=h3.full 3 _ rfl;have c4:=h3.full 4 _ rfl;have c5:=h3.full 5 _ rfl;rw [Nat.zero_add] at c0 c1 c2 c3 c4 c5;replace h4:=Hd h4;clear hb h3
     (simp only [Option.getD_some,Option.isSome_some,if_true])
     go_wp2_with fail
     refine (hck.out _).mono ?_;rintro e w5 ⟨rfl,hb⟩;have h3:=h4.out.move hb;clear hb c0 c1 c2 c3 c4 c5 z;obtain ⟨w3,hw3⟩:∃w3,w3=w5:=⟨_,rfl⟩;rw [<-hw3] at h3 ⊢;replace hw3:=Hd hw3;replace h3:=Hd h3;go_wp2_with fail
     refine (Av _).mono ?_;rintro e w' ⟨rfl,hww⟩;obtain rfl:=hww.symm;exact ⟨rfl,Fg ok.out rfl h3.out.below⟩
set_option maxRecDepth 100000 in
set_option maxHeartbeats 3200000 in
theorem short_7 {w:World} {t:ByteArray} {o:Option Nat} (hp:∀W,Below w.heap.size w W->Calls Tryz.prog 90 #[.string t] W (RealQ o W)):Calls Tryz.prog 71 #[.int .i64 7,.string t] w (Cb (o.map fun r=>Ay 7 ⟨#[]⟩ 0 r false) w):=by
 have h2:=Two.start w 7 ⟨#[]⟩ 0 0 false;cases o with
 | none=>
   replace hp:=Hd hp;replace h2:=Hd h2
   go_enter Tryz.func71,Tryz.ntmps71
   go_wp2_with fail
   refine (hp.out _ h2.out.below).mono ?_;rintro e w3 ⟨⟨x,rfl⟩,hb⟩;have h3:=h2.out.move hb;have z:=h3.blk1.frz 3 none;have c2:=h3.full 3 _ rfl;rw [Nat.zero_add] at c2;have h4:=h3.set3 x;replace h4:=Hd h4;clear hb h3;go_wp2_with fail
   refine (Av _).mono ?_;rintro e w' ⟨rfl,hww⟩;obtain rfl:=hww.symm;exact ⟨rfl,E5 rfl h4.out.below⟩
 | some n=>
   replace hp:=Hd hp;have hck:=Ct 7 ⟨#[]⟩ 0 n false (by decide) (by decide);by_cases ok:okV (Ay 7 ⟨#[]⟩ 0 n false)=true
   · rw [if_pos ok] at hck
     replace hck:=Hd hck;replace ok:=Hd ok;replace h2:=Hd h2
     go_enter Tryz.func71,Tryz.ntmps71
     go_wp2_with fail
     refine (hp.out _ h2.out.below).mono ?_;rintro e w3 ⟨rfl,hb⟩;have h3:=h2.out.move hb;have z:=h3.blk1.frz 3 none;have h4:=h3.set3 n;have c0:=h3.full 0 _ rfl;have c1:=h3.full 1 _ rfl;have c2:=h3.full 2 _ rfl;have c3:=h3.full 3 _ rfl;have c4:=h3.full 4 _ rfl;have c5:=h3.full 5 _ rfl;rw [Nat.zero_add] at c0 c1 c2 c3 c4 c5;replace h4:=Hd h4;clear hb h3
     skip
     go_wp2_with fail
     refine (hck.out _).mono ?_;rintro e w5 ⟨rfl,hb⟩;have h3:=h4.out.move hb;clear hb c0 c1 c2 c3 c4 c5 z;obtain ⟨w3,hw3⟩:∃w3,w3=w5:=⟨_,rfl⟩;rw [<-hw3] at h3 ⊢;replace hw3:=Hd hw3;have hrR:(w3.setCells w.heap.size 0 [.int .i64 7,.string (⟨#[]⟩:ByteArray),.int .i64 0,.float .f64 n,.bool false,.slice none 0 0]).rangeAt w.heap.size 0 [.int .i64 7,.string (⟨#[]⟩:ByteArray),.int .i64 0,.float .f64 n,.bool false,.slice none 0 0]:=
       World.rangeAt_setCells_same _ _ _ _ (Ao (n:=6) h3.zero h3.blk rfl)
     have htC:=Ao (n:=6) h3.zero h3.blk rfl;have hfu:=h3.full;have hbl:Below w.heap.size w (w3.setCells w.heap.size 0 [.int .i64 7,.string (⟨#[]⟩:ByteArray),.int .i64 0,.float .f64 n,.bool false,.slice none 0 0]):=
       h3.below.trans ((Fr.setCells (S:=fun k=>k=w.heap.size) (fun _=>rfl) _ _ _ (Fr.refl _ w3)).below h3.below.size (fun i hi h=>by omega))
     replace hrR:=Hd hrR;replace htC:=Hd htC;replace hfu:=Hd hfu;replace hbl:=Hd hbl;replace h3:=Hd h3
     go_wp2_with (first
       | (refine wpList_load_mid rfl 26 _ rfl (w.heap.size+1) 0 rfl _ _ hfu.out Tryz.underlying26 rfl Ai ?_)
       | (refine wpList_store_mid rfl 26 _ _ rfl w.heap.size 0 _ rfl rfl htC.out Ai (one6 _ _ _ _ _ _ _ _) ?_))
     refine bodyPost_ret (Ap (v:=.agg #[.int .i64 7,.string (⟨#[]⟩:ByteArray),.int .i64 0,.float .f64 n,.bool false,.slice none 0 0]) rfl rfl (run_loadVar_mid (P:=Tryz.prog) _ _ 0 26 _ _ hrR.out Tryz.underlying26 rfl Ai)) rfl ?_;exact De ok.out rfl hbl.out
   · rw [if_neg ok] at hck
     replace hck:=Hd hck;replace ok:=Hd ok;replace h2:=Hd h2
     go_enter Tryz.func71,Tryz.ntmps71
     go_wp2_with fail
     refine (hp.out _ h2.out.below).mono ?_;rintro e w3 ⟨rfl,hb⟩;have h3:=h2.out.move hb;have z:=h3.blk1.frz 3 none;have h4:=h3.set3 n;have c0:=h3.full 0 _ rfl;have c1:=h3.full 1 _ rfl;have c2:=h3.full 2 _ rfl;have c3:=h3.full 3 _ rfl;have c4:=h3.full 4 _ rfl;have c5:=h3.full 5 _ rfl;rw [Nat.zero_add] at c0 c1 c2 c3 c4 c5;replace h4:=Hd h4;clear hb h3
     skip
     go_wp2_with fail
     refine (hck.out _).mono ?_;rintro e w5 ⟨rfl,hb⟩;have h3:=h4.out.move hb;clear hb c0 c1 c2 c3 c4 c5 z;obtain ⟨w3,hw3⟩:∃w3,w3=w5:=⟨_,rfl⟩;rw [<-hw3] at h3 ⊢;replace hw3:=Hd hw3;replace h3:=Hd h3;go_wp2_with fail
     refine (Av _).mono ?_;rintro e w' ⟨rfl,hww⟩;obtain rfl:=hww.symm;exact ⟨rfl,Fg ok.out rfl h3.out.below⟩
theorem okV_flag (f:Bool):okV (Ay 8 ⟨#[]⟩ 0 0 f)=true:=by cases f<;>decide +kernel
theorem okV_null:okV (Ay 6 ⟨#[]⟩ 0 0 false)=true:=by decide +kernel
set_option maxRecDepth 100000 in
set_option maxHeartbeats 3200000 in
theorem short_t {w:World}:Calls Tryz.prog 71 #[.int .i64 8,.string ⟨#[116]⟩] w (Cb (some (Ay 8 ⟨#[]⟩ 0 0 true)) w):=by
 have h2:=Two.start w 8 ⟨#[]⟩ 0 0 true;have hck:=Ct 8 ⟨#[]⟩ 0 0 true (by decide) (by decide);rw [if_pos (okV_flag true)] at hck;replace hck:=Hd hck;replace h2:=Hd h2
 go_enter Tryz.func71,Tryz.ntmps71
 go_wp2_with fail
 refine (hck.out _).mono ?_;rintro e w3 ⟨rfl,hb⟩;have h3:=h2.out.move hb;clear hb;have hrR:(w3.setCells w.heap.size 0 [.int .i64 8,.string (⟨#[]⟩:ByteArray),.int .i64 0,.float .f64 0,.bool true,.slice none 0 0]).rangeAt w.heap.size 0 [.int .i64 8,.string (⟨#[]⟩:ByteArray),.int .i64 0,.float .f64 0,.bool true,.slice none 0 0]:=
   World.rangeAt_setCells_same _ _ _ _ (Ao (n:=6) h3.zero h3.blk rfl)
 have htC:=Ao (n:=6) h3.zero h3.blk rfl;have hfu:=h3.full;have hbl:Below w.heap.size w (w3.setCells w.heap.size 0 [.int .i64 8,.string (⟨#[]⟩:ByteArray),.int .i64 0,.float .f64 0,.bool true,.slice none 0 0]):=
   h3.below.trans ((Fr.setCells (S:=fun k=>k=w.heap.size) (fun _=>rfl) _ _ _ (Fr.refl _ w3)).below h3.below.size (fun i hi h=>by omega))
 replace hrR:=Hd hrR;replace htC:=Hd htC;replace hfu:=Hd hfu;replace hbl:=Hd hbl;replace h3:=Hd h3
 go_wp2_with (first
   | (refine wpList_load_mid rfl 26 _ rfl (w.heap.size+1) 0 rfl _ _ hfu.out Tryz.underlying26 rfl Ai ?_)
   | (refine wpList_store_mid rfl 26 _ _ rfl w.heap.size 0 _ rfl rfl htC.out Ai (one6 _ _ _ _ _ _ _ _) ?_))
 refine bodyPost_ret (Ap (v:=.agg #[.int .i64 8,.string (⟨#[]⟩:ByteArray),.int .i64 0,.float .f64 0,.bool true,.slice none 0 0]) rfl rfl (run_loadVar_mid (P:=Tryz.prog) _ _ 0 26 _ _ hrR.out Tryz.underlying26 rfl Ai)) rfl ?_;exact De (okV_flag true) rfl hbl.out
set_option maxRecDepth 100000 in
set_option maxHeartbeats 3200000 in
theorem short_f {w:World}:Calls Tryz.prog 71 #[.int .i64 8,.string ⟨#[102]⟩] w (Cb (some (Ay 8 ⟨#[]⟩ 0 0 false)) w):=by
 have h2:=Two.start w 8 ⟨#[]⟩ 0 0 false;have hck:=Ct 8 ⟨#[]⟩ 0 0 false (by decide) (by decide);rw [if_pos (okV_flag false)] at hck;replace hck:=Hd hck;replace h2:=Hd h2
 go_enter Tryz.func71,Tryz.ntmps71
 go_wp2_with fail
 refine (hck.out _).mono ?_;rintro e w3 ⟨rfl,hb⟩;have h3:=h2.out.move hb;clear hb;have hrR:(w3.setCells w.heap.size 0 [.int .i64 8,.string (⟨#[]⟩:ByteArray),.int .i64 0,.float .f64 0,.bool false,.slice none 0 0]).rangeAt w.heap.size 0 [.int .i64 8,.string (⟨#[]⟩:ByteArray),.int .i64 0,.float .f64 0,.bool false,.slice none 0 0]:=
   World.rangeAt_setCells_same _ _ _ _ (Ao (n:=6) h3.zero h3.blk rfl)
 have htC:=Ao (n:=6) h3.zero h3.blk rfl;have hfu:=h3.full;have hbl:Below w.heap.size w (w3.setCells w.heap.size 0 [.int .i64 8,.string (⟨#[]⟩:ByteArray),.int .i64 0,.float .f64 0,.bool false,.slice none 0 0]):=
   h3.below.trans ((Fr.setCells (S:=fun k=>k=w.heap.size) (fun _=>rfl) _ _ _ (Fr.refl _ w3)).below h3.below.size (fun i hi h=>by omega))
 replace hrR:=Hd hrR;replace htC:=Hd htC;replace hfu:=Hd hfu;replace hbl:=Hd hbl;replace h3:=Hd h3
 go_wp2_with (first
   | (refine wpList_load_mid rfl 26 _ rfl (w.heap.size+1) 0 rfl _ _ hfu.out Tryz.underlying26 rfl Ai ?_)
   | (refine wpList_store_mid rfl 26 _ _ rfl w.heap.size 0 _ rfl rfl htC.out Ai (one6 _ _ _ _ _ _ _ _) ?_))
 refine bodyPost_ret (Ap (v:=.agg #[.int .i64 8,.string (⟨#[]⟩:ByteArray),.int .i64 0,.float .f64 0,.bool false,.slice none 0 0]) rfl rfl (run_loadVar_mid (P:=Tryz.prog) _ _ 0 26 _ _ hrR.out Tryz.underlying26 rfl Ai)) rfl ?_;exact De (okV_flag false) rfl hbl.out
set_option maxRecDepth 100000 in
set_option maxHeartbeats 3200000 in
theorem short_8no {w:World} {t:ByteArray} (h1:t≠⟨#[116]⟩) (h2' : t≠⟨#[102]⟩):Calls Tryz.prog 71 #[.int .i64 8,.string t] w (Cb none w):=by
 have h2:=Two.start w 8 ⟨#[]⟩ 0 0 false;have y1:(t.toList == [116])=false:=beq_eq_false_iff_ne.2 fun e=>h1 (by rw [ByteArray.toList_eq] at e;exact ByteArray.ext (Array.toList_inj.1 e));have y2:(t.toList == [102])=false:=beq_eq_false_iff_ne.2 fun e=>h2' (by rw [ByteArray.toList_eq] at e;exact ByteArray.ext (Array.toList_inj.1 e));have y3:(t.toList != [116])=true:=by simp [bne,y1]
 have y4:(t.toList != [102])=true:=by simp [bne,y2]
 replace h2:=Hd h2;replace h1:=Hd h1;replace h2' := Hd h2'
 go_enter Tryz.func71,Tryz.ntmps71
 go_wp2_with fail
 refine (Av _).mono ?_;rintro e w' ⟨rfl,hww⟩;obtain rfl:=hww.symm;exact ⟨rfl,E5 rfl h2.out.below⟩
set_option maxRecDepth 100000 in
set_option maxHeartbeats 3200000 in
theorem short_6 {w:World}:Calls Tryz.prog 71 #[.int .i64 6,.string ⟨#[]⟩] w (Cb (some (Ay 6 ⟨#[]⟩ 0 0 false)) w):=by
 have h2:=Two.start w 6 ⟨#[]⟩ 0 0 false;have hck:=Ct 6 ⟨#[]⟩ 0 0 false (by decide) (by decide);rw [if_pos okV_null] at hck;replace hck:=Hd hck;replace h2:=Hd h2
 go_enter Tryz.func71,Tryz.ntmps71
 go_wp2_with fail
 refine (hck.out _).mono ?_;rintro e w3 ⟨rfl,hb⟩;have h3:=h2.out.move hb;clear hb;have hrR:(w3.setCells w.heap.size 0 [.int .i64 6,.string (⟨#[]⟩:ByteArray),.int .i64 0,.float .f64 0,.bool false,.slice none 0 0]).rangeAt w.heap.size 0 [.int .i64 6,.string (⟨#[]⟩:ByteArray),.int .i64 0,.float .f64 0,.bool false,.slice none 0 0]:=
   World.rangeAt_setCells_same _ _ _ _ (Ao (n:=6) h3.zero h3.blk rfl)
 have htC:=Ao (n:=6) h3.zero h3.blk rfl;have hfu:=h3.full;have hbl:Below w.heap.size w (w3.setCells w.heap.size 0 [.int .i64 6,.string (⟨#[]⟩:ByteArray),.int .i64 0,.float .f64 0,.bool false,.slice none 0 0]):=
   h3.below.trans ((Fr.setCells (S:=fun k=>k=w.heap.size) (fun _=>rfl) _ _ _ (Fr.refl _ w3)).below h3.below.size (fun i hi h=>by omega))
 replace hrR:=Hd hrR;replace htC:=Hd htC;replace hfu:=Hd hfu;replace hbl:=Hd hbl;replace h3:=Hd h3
 go_wp2_with (first
   | (refine wpList_load_mid rfl 26 _ rfl (w.heap.size+1) 0 rfl _ _ hfu.out Tryz.underlying26 rfl Ai ?_)
   | (refine wpList_store_mid rfl 26 _ _ rfl w.heap.size 0 _ rfl rfl htC.out Ai (one6 _ _ _ _ _ _ _ _) ?_))
 refine bodyPost_ret (Ap (v:=.agg #[.int .i64 6,.string (⟨#[]⟩:ByteArray),.int .i64 0,.float .f64 0,.bool false,.slice none 0 0]) rfl rfl (run_loadVar_mid (P:=Tryz.prog) _ _ 0 26 _ _ hrR.out Tryz.underlying26 rfl Ai)) rfl ?_;exact De okV_null rfl hbl.out
set_option maxRecDepth 100000 in
set_option maxHeartbeats 3200000 in
theorem short_6no {w:World} {t:ByteArray} (h1:t≠⟨#[]⟩):Calls Tryz.prog 71 #[.int .i64 6,.string t] w (Cb none w):=by
 have h2:=Two.start w 6 ⟨#[]⟩ 0 0 false;have y0:¬t.toList=[]:=fun e=>h1 (by rw [ByteArray.toList_eq] at e;exact ByteArray.ext (Array.toList_inj.1 e));have y1:(t.toList == [])=false:=beq_eq_false_iff_ne.2 y0;have y3:(t.toList != [])=true:=by simp [bne,y1]
 have y4:t.toList.isEmpty=false:=by cases hh:t.toList.isEmpty with | false=>rfl | true=>exact absurd (List.isEmpty_iff.1 hh) y0
 replace h2:=Hd h2
 go_enter Tryz.func71,Tryz.ntmps71
 go_wp2_with fail
 refine (Av _).mono ?_;rintro e w' ⟨rfl,hww⟩;obtain rfl:=hww.symm;exact ⟨rfl,E5 rfl h2.out.below⟩
def B6 (ro:Option Nat) (k:Nat) (t:ByteArray):Option V:=
 if k=1\/k=2\/k=9 then some (Ay k t 0 0 false)
 else if k=3 then (wP t.data.toList).map fun n=>Ay 3 ⟨#[]⟩ n 0 false
 else if k=7 then ro.map fun r=>Ay 7 ⟨#[]⟩ 0 r false
 else if k=8 then (if t=⟨#[116]⟩ then some (Ay 8 ⟨#[]⟩ 0 0 true) else if t=⟨#[102]⟩ then some (Ay 8 ⟨#[]⟩ 0 0 false) else none)
 else if t=⟨#[]⟩ then some (Ay 6 ⟨#[]⟩ 0 0 false) else none
theorem short_any {w:World} {k:Nat} {t:ByteArray} {o:Option Nat} (hk:k=1\/k=2\/k=9\/k=3\/k=7\/k=8\/k=6) (ht:t.size<=1000000) (hN:Nums w) (hp:k=7->∀W,Below w.heap.size w W->Calls Tryz.prog 90 #[.string t] W (RealQ o W)) :
   Calls Tryz.prog 71 #[.int .i64 (k:Int),.string t] w (Cb (B6 o k t) w):=by
 unfold B6
 rcases hk with rfl | rfl | rfl | rfl | rfl | rfl | rfl
 · exact short_1 ht
 · exact short_2 ht
 · exact short_9 ht
 · exact short_3 ht hN
 · exact short_7 (hp rfl)
 · rw [if_neg (by decide),if_neg (by decide),if_neg (by decide),if_pos (by decide)]
   by_cases h1:t=⟨#[116]⟩
   · rw [if_pos h1,h1];exact short_t
   · rw [if_neg h1]
     by_cases h2:t=⟨#[102]⟩
     · rw [if_pos h2,h2];exact short_f
     · rw [if_neg h2];exact short_8no h1 h2
 · rw [if_neg (by decide),if_neg (by decide),if_neg (by decide),if_neg (by decide)]
   by_cases h1:t=⟨#[]⟩
   · rw [if_pos h1,h1];exact short_6
   · rw [if_neg h1];exact short_6no h1
structure Rp where
 f:List UInt8->Option Nat
 K:List UInt8->Prop
instance:CoeFun Rp (fun _=>List UInt8->Option Nat):=⟨Rp.f⟩
inductive Head where
 | stop (e:Nat)
 | leaf (v:V) (used:Nat)
 | list (kind n used:Nat)
def A8 (rp:Rp):List UInt8->Head
 | []=>.stop 0
 | c :: L=>
   if Ac c=0 then .stop 51 else
   match A7 L with
   | .stop e=>.stop e
   | .got (t,u)=>
     if t=[45,49]/\(Ac c=4\/Ac c=5) then .leaf (Ay 6 ⟨#[]⟩ 0 0 false) (1+u)
     else if Ac c=4\/Ac c=10\/Ac c=11 then
       match numS t 4096 with
       | none=>.stop 51
       | some n=>match Cg (L.drop u) n with
         | .stop e=>.stop e
         | .got s=>if okV (Ay (Ac c) ⟨s.toArray⟩ 0 0 false)=true then .leaf (Ay (Ac c) ⟨s.toArray⟩ 0 0 false) (1+u+(n+2)) else .stop 51
     else if Ac c=5\/Ac c=13\/Ac c=14 then
       match numS t 1000 with
       | none=>.stop 51
       | some n=>.list (Ac c) n (1+u)
     else if Ac c=12 then
       match numS t 1000 with
       | none=>.stop 51
       | some n=>.list 12 (2 * n) (1+u)
     else match B6 (rp t) (Ac c) ⟨t.toArray⟩ with
       | none=>.stop 51
       | some v=>if okV v=true then .leaf v (1+u) else .stop 51
def Be (f:Nat->List UInt8->Out (V × Nat × Nat)):Nat->Nat->List UInt8->Out (List V × Nat × Nat)
 | 0,many,_=>.got ([],0,many)
 | n+1,many,L=>match f many L with
   | .stop e=>.stop e
   | .got (v,u,m)=>match Be f n m (L.drop u) with
     | .stop e=>.stop e
     | .got (l,u2,m2)=>.got (v :: l,u+u2,m2)
def Aq (rp:Rp):Nat->Nat->List UInt8->Out (V × Nat × Nat)
 | 0,many,L=>match A8 rp L with
   | .stop e=>.stop e
   | .leaf v u=>.got (v,u,many)
   | .list _ _ _=>.stop 51
 | lv+1,many,L=>match A8 rp L with
   | .stop e=>.stop e
   | .leaf v u=>.got (v,u,many)
   | .list kd n u=>
     if 1000<many+n\/(kd=14/\(n=0\/lv<7)) then .stop 51
     else match Be (Aq rp lv) n (many+n) (L.drop u) with
       | .stop e=>.stop e
       | .got (l,u2,m2)=>.got (.mk kd ⟨#[]⟩ 0 0 false l,u+u2,m2)
def needH (rp:Rp) (L:List UInt8):Prop:=∀(c:UInt8) (L' t:List UInt8) (u:Nat),L=c :: L' -> Ac c=7->A7 L' = .got (t,u)->rp.K t
def needN (need:Nat->List UInt8->Prop) (f:Nat->List UInt8->Out (V × Nat × Nat)):Nat->Nat->List UInt8->Prop
 | 0,_,_=>True
 | n+1,m,L=>need m L/\∀(v:V) (u m' : Nat),f m L=.got (v,u,m')->needN need f n m' (L.drop u)
def Cz (rp:Rp):Nat->Nat->List UInt8->Prop
 | 0,_,L=>needH rp L
 | lv+1,m,L=>needH rp L/\∀(kd n u:Nat),A8 rp L=.list kd n u->needN (Cz rp lv) (Aq rp lv) n (m+n) (L.drop u)
theorem needV_head {rp:Rp} {lv m:Nat} {L:List UInt8} (h:Cz rp lv m L):needH rp L:=by
 cases lv with
 | zero=>exact h
 | succ lv=>exact h.1
structure Env (rp:Rp) (w0:World) (s:ByteArray):Prop where
 nums:Nums w0
 real:∀W,Below w0.heap.size w0 W->∀(t:List UInt8),rp.K t->Calls Tryz.prog 90 #[.string ⟨t.toArray⟩] W (RealQ (rp t) W)
structure RS (rp:Rp) (w0 w:World) (g b o n cap:Nat) (s:ByteArray) (at_ many:Nat):Prop where
 scan:Scan w g b o n cap s at_ many
 env:Env rp w0 s
 below:Below w0.heap.size w0 w
 base:w0.heap.size<=g
 le:at_<=n
theorem RS.next {rp:Rp} {w0 w w' : World} {g b o n cap at_ many at2 many2:Nat} {s:ByteArray} (h:RS rp w0 w g b o n cap s at_ many) (hf:Fr (fun k=>k=g) w w') (hs:Scan w' g b o n cap s at2 many2) (hl:at2<=n):RS rp w0 w' g b o n cap s at2 many2:=
 ⟨hs,h.env,h.below.trans (hf.below h.below.size (fun i hi e=>by have:=h.base;omega)),h.base,hl⟩
theorem Ag {w w' : World} {g:Nat} (h:Below w.heap.size w w'):Fr (fun k=>k=g) w w' := (Fr.of_below h).mono (fun i hi h=>absurd hi (Nat.not_lt_of_le h))
theorem RS.grow {rp:Rp} {w0 w w' : World} {g b o n cap at_ many:Nat} {s:ByteArray} (h:RS rp w0 w g b o n cap s at_ many) (hb:Below w.heap.size w w'):RS rp w0 w' g b o n cap s at_ many:=by
 have hblt:g<w.heap.size:=h.scan.blk.lt;refine h.next (Ag hb) ⟨?_,?_,?_,?_,?_,h.scan.size,h.scan.ne,h.scan.room,h.scan.big⟩ h.le
 · rw [hb.cell (World.block_lt_of_cell? _ _ h.scan.c0)];exact h.scan.c0
 · rw [hb.cell (World.block_lt_of_cell? _ _ h.scan.c1)];exact h.scan.c1
 · rw [hb.cell (World.block_lt_of_cell? _ _ h.scan.c2)];exact h.scan.c2
 · exact h.scan.blk.of_block (hb.block _ hblt)
 · exact Bv h.scan.bytes hb
theorem RS.nums {rp:Rp} {w0 w:World} {g b o n cap at_ many:Nat} {s:ByteArray} (h:RS rp w0 w g b o n cap s at_ many):Nums w:=h.env.nums.below h.below
def ValQ (rp:Rp) (w0:World) (g b o n cap:Nat) (s:ByteArray) (at_:Nat) (out:Out (V × Nat × Nat)) (w:World) (e:Ending) (w' : World):Prop:=
 match out with
 | .stop q=>e=B8 q/\Fr (fun k=>k=g) w w'
 | .got (v,u,m)=>∃(a:Option Addr) (ca:Nat),e=.returned (.agg #[.int .i64 v.kind,.string v.text,.int .i64 v.int,.float .f64 v.real,.bool v.flag,.slice a v.list.length ca]) /\
     RV (Bf w.heap.size w') (At v.kind v.text v.int v.real v.flag a v.list.length ca) v/\Fr (fun k=>k=g) w w' /\ RS rp w0 w' g b o n cap s (at_+u) m
theorem Df {L t:List UInt8} {u:Nat} (h:A7 L=.got (t,u)):t.length<=4200/\t.length+2=u/\u<=L.length:=by
 unfold A7 at h;dsimp only at h;have hl:(L.take 4200).length<=4200:=by rw [List.length_take];omega
 have hl2:(L.take 4200).length<=L.length:=by rw [List.length_take];omega
 have hb:=Bi (L.take 4200) 10;split at h
 · cases h
 · rename_i h3
   split at h
   · cases h
   · rename_i h4
     simp only [Out.got.injEq,Prod.mk.injEq] at h;obtain ⟨h1,h2⟩:=h;rw [<-h1,List.length_take];rcases hb with hb | hb
     · omega
     · exfalso
       have h0:Lib.indexByte (L.take 4200) 10=-1:=by rw [hb];rfl
       exact h4 (by rw [h0];decide)
theorem Bc (c:UInt8) (w:World):Calls Tryz.prog 63 #[.int .u8 (c.toNat:Int)] w fun e w' => e=.returned (.int .i64 (Ac c:Int))/\Below w.heap.size w w' := (kinds_any c w).mono fun e w' ⟨h1,h2⟩=>⟨h1,by rw [h2];exact Below.refl _ _⟩
set_option maxRecDepth 100000 in
set_option maxHeartbeats 3200000 in
theorem value_end {rp:Rp} {w0 w:World} {g b o n cap at_ many:Nat} {s:ByteArray} {d:Int} (h:RS rp w0 w g b o n cap s at_ many) (he:at_=n) :
   Calls Tryz.prog 46 #[.pointer (some ⟨g,0,none⟩),.int .i64 d] w fun e w' => e=B8 0/\Fr (fun k=>k=g) w w' := by
 have hai:(n:Int)<=(at_:Int):=by omega
 replace he:=Hd he
 obtain ⟨W1,hW1⟩:∃W1,W1=w.alloc (.cells #[.int .i64 0,.string ⟨#[]⟩,.int .i64 0,.float .f64 0,.bool false,.slice none 0 0] 26):=⟨_,rfl⟩
 have hb1:Below w.heap.size w W1:=by rw [hW1];exact (Below.refl _ _).alloc (Nat.le_refl _) _
 have h1:=h.grow hb1
 have hz1:W1.rangeAt w.heap.size 0 [.int .i64 0,.string ⟨#[]⟩,.int .i64 0,.float .f64 0,.bool false,.slice none 0 0]:=by
   rw [hW1];intro q x hq;rw [Nat.zero_add,World.cell?_alloc_new];simpa using hq
 have hk1:Blk W1 w.heap.size:=by rw [hW1];exact Blk.new _ _ _
 have c0:=h1.scan.c0
 have c1:=h1.scan.c1
 have hgl:g<W1.heap.size:=h1.scan.blk.lt
 have hgw:g<w.heap.size:=h.scan.blk.lt
 replace hW1:=Hd hW1
 replace hb1:=Hd hb1
 replace h1:=Hd h1
 replace hz1:=Hd hz1
 replace hk1:=Hd hk1
 replace h:=Hd h
 go_enter Tryz.func46,Tryz.ntmps46
 go_wp2_with fail
 rw [<-hW1.out]
 refine Ad (by kernel_rfl) (by kernel_rfl) ?_
 repeat (go_big_quiet_step ((fail)))
 refine wpQuiet_nil ?_
 rintro _ ⟨xq,rfl⟩
 have hS:=Ae W1 xq
 obtain ⟨W2,hW2⟩:∃W2,W2=grow W1 xq:=⟨_,rfl⟩
 rw [<-hW2] at hS ⊢
 replace hW2:=Hd hW2
 have h2:=h1.out.grow hS
 have hb2:Below w.heap.size w W2:=hb1.out.trans (hS.mono hb1.out.size)
 have hz2:W2.rangeAt w.heap.size 0 [.int .i64 0,.string ⟨#[]⟩,.int .i64 0,.float .f64 0,.bool false,.slice none 0 0]:=fun q x hq=>by rw [hS.cell (World.block_lt_of_cell? _ _ (hz1.out q x hq))];exact hz1.out q x hq
 have hk2:Blk W2 w.heap.size:=hk1.out.of_block (hS.block _ hk1.out.lt)
 clear c0 c1 hS
 replace h2:=Hd h2
 replace hb2:=Hd hb2
 replace hz2:=Hd hz2
 replace hk2:=Hd hk2
 go_wp2_with fail
 refine (D1 _).mono ?_
 rintro e w' ⟨rfl,hww⟩
 obtain rfl:=hww.symm
 exact ⟨rfl,rfl,Ag hb2.out⟩
set_option maxRecDepth 100000 in
set_option maxHeartbeats 3200000 in
theorem value_mark {rp:Rp} {w0 w:World} {g b o n cap at_ many:Nat} {s:ByteArray} {d:Int} {c:UInt8} {L:List UInt8} (h:RS rp w0 w g b o n cap s at_ many) (hL:s.data.toList.drop at_=c :: L) (hk:Ac c=0) :
   Calls Tryz.prog 46 #[.pointer (some ⟨g,0,none⟩),.int .i64 d] w fun e w' => e=B8 51/\Fr (fun k=>k=g) w w' := by
 have hlt:at_<n:=by
   rcases Nat.lt_or_ge at_ n with hh | hh
   · exact hh
   · rw [List.drop_of_length_le (by rw [<-Am,h.scan.size];exact hh)] at hL;cases hL
 have hai:¬(n:Int)<=(at_:Int):=by omega
 have hai2:(at_:Int)<(n:Int):=by omega
 have hbig:=h.scan.big
 obtain ⟨hcel,hL2⟩:w.cell? ⟨b,o+at_,none⟩=some (.int .u8 (c.toNat:Int))/\s.data.toList.drop (at_+1)=L:=by
   have hz:=h.scan.size;have h1:=h.scan.bytes at_ (by omega);have e1:=Lib.data_getElem? s at_ (by omega);have e2:s.data.toList[at_]?=some c:=by
     have:=congrArg (·[0]?) hL
     simp only [List.getElem?_drop,Nat.add_zero] at this;exact this
   rw [e1] at e2;rw [h1,Option.some.inj e2];refine ⟨rfl,?_⟩;rw [<-List.drop_drop,hL];rfl
 have hcb:=World.block_lt_of_cell? _ _ hcel
 replace hcb:b<w.heap.size:=hcb
 replace hL:=Hd hL
 replace hL2:=Hd hL2
 replace hcel:=Hd hcel
 obtain ⟨W1,hW1⟩:∃W1,W1=w.alloc (.cells #[.int .i64 0,.string ⟨#[]⟩,.int .i64 0,.float .f64 0,.bool false,.slice none 0 0] 26):=⟨_,rfl⟩
 have hb1:Below w.heap.size w W1:=by rw [hW1];exact (Below.refl _ _).alloc (Nat.le_refl _) _
 have h1:=h.grow hb1
 have hz1:W1.rangeAt w.heap.size 0 [.int .i64 0,.string ⟨#[]⟩,.int .i64 0,.float .f64 0,.bool false,.slice none 0 0]:=by
   rw [hW1];intro q x hq;rw [Nat.zero_add,World.cell?_alloc_new];simpa using hq
 have hk1:Blk W1 w.heap.size:=by rw [hW1];exact Blk.new _ _ _
 have c0:=h1.scan.c0
 have c1:=h1.scan.c1
 have hgl:g<W1.heap.size:=h1.scan.blk.lt
 have hgw:g<w.heap.size:=h.scan.blk.lt
 replace hW1:=Hd hW1
 replace hb1:=Hd hb1
 replace h1:=Hd h1
 replace hz1:=Hd hz1
 replace hk1:=Hd hk1
 replace h:=Hd h
 go_enter Tryz.func46,Tryz.ntmps46
 go_wp2_with fail
 rw [<-hW1.out]
 refine Ad (by kernel_rfl) (by kernel_rfl) ?_
 repeat (go_big_quiet_step ((fail)))
 refine wpQuiet_nil ?_
 rintro _ ⟨xq,rfl⟩
 have hS:=Ae W1 xq
 obtain ⟨W2,hW2⟩:∃W2,W2=grow W1 xq:=⟨_,rfl⟩
 rw [<-hW2] at hS ⊢
 replace hW2:=Hd hW2
 have h2:=h1.out.grow hS
 have hb2:Below w.heap.size w W2:=hb1.out.trans (hS.mono hb1.out.size)
 have hz2:W2.rangeAt w.heap.size 0 [.int .i64 0,.string ⟨#[]⟩,.int .i64 0,.float .f64 0,.bool false,.slice none 0 0]:=fun q x hq=>by rw [hS.cell (World.block_lt_of_cell? _ _ (hz1.out q x hq))];exact hz1.out q x hq
 have hk2:Blk W2 w.heap.size:=hk1.out.of_block (hS.block _ hk1.out.lt)
 clear c0 c1 hS
 replace h2:=Hd h2
 replace hb2:=Hd hb2
 replace hz2:=Hd hz2
 replace hk2:=Hd hk2
 have c0:=h2.out.scan.c0
 have c1:=h2.out.scan.c1
 have cc:=(hb2.out.cell (p:=⟨b,o+at_,none⟩) hcb).trans hcel.out
 have hgl2:g<W2.heap.size:=h2.out.scan.blk.lt
 have hbl2:b<W2.heap.size:=Nat.lt_of_lt_of_le hcb hb2.out.size
 go_wp2_with fail
 refine Ad (by kernel_rfl) (by kernel_rfl) ?_
 repeat (go_big_quiet_step ((go_at_call 63;(with_reducible exact A0 (Bc _ _)))))
 refine wpQuiet_nil ?_
 rintro _ ⟨xq,rfl⟩
 have hS:=Ae W2 xq
 obtain ⟨W3,hW3⟩:∃W3,W3=grow W2 xq:=⟨_,rfl⟩
 rw [<-hW3] at hS ⊢
 replace hW3:=Hd hW3
 have h3:=h2.out.grow hS
 have hb3:Below w.heap.size w W3:=hb2.out.trans (hS.mono hb2.out.size)
 have hz3:W3.rangeAt w.heap.size 0 [.int .i64 0,.string ⟨#[]⟩,.int .i64 0,.float .f64 0,.bool false,.slice none 0 0]:=fun q x hq=>by rw [hS.cell (World.block_lt_of_cell? _ _ (hz2.out q x hq))];exact hz2.out q x hq
 have hk3:Blk W3 w.heap.size:=hk2.out.of_block (hS.block _ hk2.out.lt)
 clear c0 c1 hS cc
 replace h3:=Hd h3
 replace hb3:=Hd hb3
 replace hz3:=Hd hz3
 replace hk3:=Hd hk3
 rw [hk]
 go_wp2_with fail
 refine (Av _).mono ?_
 rintro e w' ⟨rfl,hww⟩
 obtain rfl:=hww.symm
 exact ⟨rfl,rfl,Ag hb3.out⟩
set_option maxRecDepth 100000 in
set_option maxHeartbeats 3200000 in
theorem value_line {rp:Rp} {w0 w:World} {g b o n cap at_ many q:Nat} {s:ByteArray} {d:Int} {c:UInt8} {L:List UInt8} (h:RS rp w0 w g b o n cap s at_ many) (hL:s.data.toList.drop at_=c :: L) (hk:Ac c≠0) (hl:A7 L=.stop q) :
   Calls Tryz.prog 46 #[.pointer (some ⟨g,0,none⟩),.int .i64 d] w fun e w' => e=B8 q/\Fr (fun k=>k=g) w w' := by
 have hk0:((Ac c:Int) == 0)=false:=by simp;omega
 replace hk:=Hd hk
 replace hl:=Hd hl
 have hlt:at_<n:=by
   rcases Nat.lt_or_ge at_ n with hh | hh
   · exact hh
   · rw [List.drop_of_length_le (by rw [<-Am,h.scan.size];exact hh)] at hL;cases hL
 have hai:¬(n:Int)<=(at_:Int):=by omega
 have hai2:(at_:Int)<(n:Int):=by omega
 have hbig:=h.scan.big
 obtain ⟨hcel,hL2⟩:w.cell? ⟨b,o+at_,none⟩=some (.int .u8 (c.toNat:Int))/\s.data.toList.drop (at_+1)=L:=by
   have hz:=h.scan.size;have h1:=h.scan.bytes at_ (by omega);have e1:=Lib.data_getElem? s at_ (by omega);have e2:s.data.toList[at_]?=some c:=by
     have:=congrArg (·[0]?) hL
     simp only [List.getElem?_drop,Nat.add_zero] at this;exact this
   rw [e1] at e2;rw [h1,Option.some.inj e2];refine ⟨rfl,?_⟩;rw [<-List.drop_drop,hL];rfl
 have hcb:=World.block_lt_of_cell? _ _ hcel
 replace hcb:b<w.heap.size:=hcb
 replace hL:=Hd hL
 replace hL2:=Hd hL2
 replace hcel:=Hd hcel
 obtain ⟨W1,hW1⟩:∃W1,W1=w.alloc (.cells #[.int .i64 0,.string ⟨#[]⟩,.int .i64 0,.float .f64 0,.bool false,.slice none 0 0] 26):=⟨_,rfl⟩
 have hb1:Below w.heap.size w W1:=by rw [hW1];exact (Below.refl _ _).alloc (Nat.le_refl _) _
 have h1:=h.grow hb1
 have hz1:W1.rangeAt w.heap.size 0 [.int .i64 0,.string ⟨#[]⟩,.int .i64 0,.float .f64 0,.bool false,.slice none 0 0]:=by
   rw [hW1];intro q x hq;rw [Nat.zero_add,World.cell?_alloc_new];simpa using hq
 have hk1:Blk W1 w.heap.size:=by rw [hW1];exact Blk.new _ _ _
 have c0:=h1.scan.c0
 have c1:=h1.scan.c1
 have hgl:g<W1.heap.size:=h1.scan.blk.lt
 have hgw:g<w.heap.size:=h.scan.blk.lt
 replace hW1:=Hd hW1
 replace hb1:=Hd hb1
 replace h1:=Hd h1
 replace hz1:=Hd hz1
 replace hk1:=Hd hk1
 replace h:=Hd h
 go_enter Tryz.func46,Tryz.ntmps46
 go_wp2_with fail
 rw [<-hW1.out]
 refine Ad (by kernel_rfl) (by kernel_rfl) ?_
 repeat (go_big_quiet_step ((fail)))
 refine wpQuiet_nil ?_
 rintro _ ⟨xq,rfl⟩
 have hS:=Ae W1 xq
 obtain ⟨W2,hW2⟩:∃W2,W2=grow W1 xq:=⟨_,rfl⟩
 rw [<-hW2] at hS ⊢
 replace hW2:=Hd hW2
 have h2:=h1.out.grow hS
 have hb2:Below w.heap.size w W2:=hb1.out.trans (hS.mono hb1.out.size)
 have hz2:W2.rangeAt w.heap.size 0 [.int .i64 0,.string ⟨#[]⟩,.int .i64 0,.float .f64 0,.bool false,.slice none 0 0]:=fun q x hq=>by rw [hS.cell (World.block_lt_of_cell? _ _ (hz1.out q x hq))];exact hz1.out q x hq
 have hk2:Blk W2 w.heap.size:=hk1.out.of_block (hS.block _ hk1.out.lt)
 clear c0 c1 hS
 replace h2:=Hd h2
 replace hb2:=Hd hb2
 replace hz2:=Hd hz2
 replace hk2:=Hd hk2
 have c0:=h2.out.scan.c0
 have c1:=h2.out.scan.c1
 have cc:=(hb2.out.cell (p:=⟨b,o+at_,none⟩) hcb).trans hcel.out
 have hgl2:g<W2.heap.size:=h2.out.scan.blk.lt
 have hbl2:b<W2.heap.size:=Nat.lt_of_lt_of_le hcb hb2.out.size
 go_wp2_with fail
 refine Ad (by kernel_rfl) (by kernel_rfl) ?_
 repeat (go_big_quiet_step ((go_at_call 63;(with_reducible exact A0 (Bc _ _)))))
 refine wpQuiet_nil ?_
 rintro _ ⟨xq,rfl⟩
 have hS:=Ae W2 xq
 obtain ⟨W3,hW3⟩:∃W3,W3=grow W2 xq:=⟨_,rfl⟩
 rw [<-hW3] at hS ⊢
 replace hW3:=Hd hW3
 have h3:=h2.out.grow hS
 have hb3:Below w.heap.size w W3:=hb2.out.trans (hS.mono hb2.out.size)
 have hz3:W3.rangeAt w.heap.size 0 [.int .i64 0,.string ⟨#[]⟩,.int .i64 0,.float .f64 0,.bool false,.slice none 0 0]:=fun q x hq=>by rw [hS.cell (World.block_lt_of_cell? _ _ (hz2.out q x hq))];exact hz2.out q x hq
 have hk3:Blk W3 w.heap.size:=hk2.out.of_block (hS.block _ hk2.out.lt)
 clear c0 c1 hS cc
 replace h3:=Hd h3
 replace hb3:=Hd hb3
 replace hz3:=Hd hz3
 replace hk3:=Hd hk3
 have c1:=h3.out.scan.c1
 have fz:=h3.out.scan.blk.frz 1 none
 go_wp2_with fail
 have e4:(at_:Int)+1=((at_+1:Nat):Int):=by omega
 rw [e4]
 have hf4:Fr (fun k=>k=g) w (W3.setCell ⟨g,1,none⟩ (.int .i64 ((at_+1:Nat):Int))):=Fr.setCell (S:=fun k=>k=g) (Ag hb3.out) (fun _=>rfl) _
 have h4:RS rp w0 (W3.setCell ⟨g,1,none⟩ (.int .i64 ((at_+1:Nat):Int))) g b o n cap s (at_+1) many:=h3.out.next (Fr.setCell (S:=fun k=>k=g) (Fr.refl _ _) (fun _=>rfl) _) (h3.out.scan.move _) (by omega)
 have hz4:(W3.setCell ⟨g,1,none⟩ (.int .i64 ((at_+1:Nat):Int))).rangeAt w.heap.size 0 [.int .i64 0,.string ⟨#[]⟩,.int .i64 0,.float .f64 0,.bool false,.slice none 0 0]:=fun q x hq=>by
   rw [Ab (fun e=>by have:=congrArg Addr.block e;simp at this;omega)];exact hz3.out q x hq
 have hk4:Blk (W3.setCell ⟨g,1,none⟩ (.int .i64 ((at_+1:Nat):Int))) w.heap.size:=hk3.out.setCell _ _
 generalize W3.setCell ⟨g,1,none⟩ (.int .i64 ((at_+1:Nat):Int))=W4 at *
 clear c1 fz e4
 replace h4:=Hd h4
 replace hf4:=Hd hf4
 replace hz4:=Hd hz4
 replace hk4:=Hd hk4
 have hq:q=51\/q=0:=by
   have:=hl.out;unfold A7 at this;dsimp only at this;split at this
   · left;simpa using this.symm
   · split at this
     · right;simpa using this.symm
     · cases this
 rcases hq with rfl | rfl
 · refine (line_bad h4.out.scan h4.out.le (by rw [hL2.out];exact hl.out)).mono ?_
   rintro e w' ⟨rfl,hb⟩;exact ⟨rfl,rfl,hf4.out.trans_new (Ag (g:=g) hb) (fun i hi h=>h)⟩
 · refine (line_short h4.out.scan h4.out.le (by rw [hL2.out];exact hl.out)).mono ?_
   rintro e w' ⟨rfl,hb⟩;exact ⟨rfl,rfl,hf4.out.trans_new (Ag (g:=g) hb) (fun i hi h=>h)⟩
theorem nilR_any (w:World):Calls Tryz.prog 66 #[] w fun e w' => e=.returned (.agg #[.int .i64 6,.string ⟨#[]⟩,.int .i64 0,.float .f64 0,.bool false,.slice none 0 0])/\Below w.heap.size w w' := by
 have hal:=fun (o:Obj)=>(Below.refl w.heap.size w).alloc (Nat.le_refl _) o;replace hal:=Hd hal
 go_enter Tryz.func66,Tryz.ntmps66
 go_wp2;exact bodyPost_ret (v:=.agg #[.int .i64 6,.string ⟨#[]⟩,.int .i64 0,.float .f64 0,.bool false,.slice none 0 0]) (by simp [results,Tryz.results66,go_sem]) rfl ⟨rfl,hal.out _⟩
theorem kindR_tab:∀c:Fin 256,Ac (UInt8.ofNat c.val)<=14:=by decide +kernel
theorem kindR_le (c:UInt8):Ac c<=14:=by
 have:=kindR_tab ⟨c.toNat,c.toNat_lt⟩;simpa using this
set_option maxRecDepth 100000 in
set_option maxHeartbeats 3200000 in
theorem value_nil {rp:Rp} {w0 w:World} {g b o n cap at_ many u:Nat} {s:ByteArray} {d:Int} {c:UInt8} {L:List UInt8} (h:RS rp w0 w g b o n cap s at_ many) (hL:s.data.toList.drop at_=c :: L) (hk:Ac c=4\/Ac c=5) (hl:A7 L=.got ([45,49],u)) :
   Calls Tryz.prog 46 #[.pointer (some ⟨g,0,none⟩),.int .i64 d] w (ValQ rp w0 g b o n cap s at_ (.got (Ay 6 ⟨#[]⟩ 0 0 false,1+u,many)) w):=by
 obtain ⟨kd,hkd⟩:∃kd,kd=Ac c:=⟨_,rfl⟩
 rw [<-hkd] at hk
 replace hl:=Hd hl
 have hlt:at_<n:=by
   rcases Nat.lt_or_ge at_ n with hh | hh
   · exact hh
   · rw [List.drop_of_length_le (by rw [<-Am,h.scan.size];exact hh)] at hL;cases hL
 have hai:¬(n:Int)<=(at_:Int):=by omega
 have hai2:(at_:Int)<(n:Int):=by omega
 have hbig:=h.scan.big
 obtain ⟨hcel,hL2⟩:w.cell? ⟨b,o+at_,none⟩=some (.int .u8 (c.toNat:Int))/\s.data.toList.drop (at_+1)=L:=by
   have hz:=h.scan.size;have h1:=h.scan.bytes at_ (by omega);have e1:=Lib.data_getElem? s at_ (by omega);have e2:s.data.toList[at_]?=some c:=by
     have:=congrArg (·[0]?) hL
     simp only [List.getElem?_drop,Nat.add_zero] at this;exact this
   rw [e1] at e2;rw [h1,Option.some.inj e2];refine ⟨rfl,?_⟩;rw [<-List.drop_drop,hL];rfl
 have hcb:=World.block_lt_of_cell? _ _ hcel
 replace hcb:b<w.heap.size:=hcb
 replace hL:=Hd hL
 replace hL2:=Hd hL2
 replace hcel:=Hd hcel
 obtain ⟨W1,hW1⟩:∃W1,W1=w.alloc (.cells #[.int .i64 0,.string ⟨#[]⟩,.int .i64 0,.float .f64 0,.bool false,.slice none 0 0] 26):=⟨_,rfl⟩
 have hb1:Below w.heap.size w W1:=by rw [hW1];exact (Below.refl _ _).alloc (Nat.le_refl _) _
 have h1:=h.grow hb1
 have hz1:W1.rangeAt w.heap.size 0 [.int .i64 0,.string ⟨#[]⟩,.int .i64 0,.float .f64 0,.bool false,.slice none 0 0]:=by
   rw [hW1];intro q x hq;rw [Nat.zero_add,World.cell?_alloc_new];simpa using hq
 have hk1:Blk W1 w.heap.size:=by rw [hW1];exact Blk.new _ _ _
 have c0:=h1.scan.c0
 have c1:=h1.scan.c1
 have hgl:g<W1.heap.size:=h1.scan.blk.lt
 have hgw:g<w.heap.size:=h.scan.blk.lt
 replace hW1:=Hd hW1
 replace hb1:=Hd hb1
 replace h1:=Hd h1
 replace hz1:=Hd hz1
 replace hk1:=Hd hk1
 replace h:=Hd h
 go_enter Tryz.func46,Tryz.ntmps46
 go_wp2_with fail
 rw [<-hW1.out]
 refine Ad (by kernel_rfl) (by kernel_rfl) ?_
 repeat (go_big_quiet_step ((fail)))
 refine wpQuiet_nil ?_
 rintro _ ⟨xq,rfl⟩
 have hS:=Ae W1 xq
 obtain ⟨W2,hW2⟩:∃W2,W2=grow W1 xq:=⟨_,rfl⟩
 rw [<-hW2] at hS ⊢
 replace hW2:=Hd hW2
 have h2:=h1.out.grow hS
 have hb2:Below w.heap.size w W2:=hb1.out.trans (hS.mono hb1.out.size)
 have hz2:W2.rangeAt w.heap.size 0 [.int .i64 0,.string ⟨#[]⟩,.int .i64 0,.float .f64 0,.bool false,.slice none 0 0]:=fun q x hq=>by rw [hS.cell (World.block_lt_of_cell? _ _ (hz1.out q x hq))];exact hz1.out q x hq
 have hk2:Blk W2 w.heap.size:=hk1.out.of_block (hS.block _ hk1.out.lt)
 clear c0 c1 hS
 replace h2:=Hd h2
 replace hb2:=Hd hb2
 replace hz2:=Hd hz2
 replace hk2:=Hd hk2
 have c0:=h2.out.scan.c0
 have c1:=h2.out.scan.c1
 have cc:=(hb2.out.cell (p:=⟨b,o+at_,none⟩) hcb).trans hcel.out
 have hgl2:g<W2.heap.size:=h2.out.scan.blk.lt
 have hbl2:b<W2.heap.size:=Nat.lt_of_lt_of_le hcb hb2.out.size
 go_wp2_with fail
 refine Ad (by kernel_rfl) (by kernel_rfl) ?_
 repeat (go_big_quiet_step ((go_at_call 63;(with_reducible exact A0 (Bc _ _)))))
 refine wpQuiet_nil ?_
 rintro _ ⟨xq,rfl⟩
 have hS:=Ae W2 xq
 obtain ⟨W3,hW3⟩:∃W3,W3=grow W2 xq:=⟨_,rfl⟩
 rw [<-hW3] at hS ⊢
 replace hW3:=Hd hW3
 have h3:=h2.out.grow hS
 have hb3:Below w.heap.size w W3:=hb2.out.trans (hS.mono hb2.out.size)
 have hz3:W3.rangeAt w.heap.size 0 [.int .i64 0,.string ⟨#[]⟩,.int .i64 0,.float .f64 0,.bool false,.slice none 0 0]:=fun q x hq=>by rw [hS.cell (World.block_lt_of_cell? _ _ (hz2.out q x hq))];exact hz2.out q x hq
 have hk3:Blk W3 w.heap.size:=hk2.out.of_block (hS.block _ hk2.out.lt)
 clear c0 c1 hS cc
 replace h3:=Hd h3
 replace hb3:=Hd hb3
 replace hz3:=Hd hz3
 replace hk3:=Hd hk3
 rw [<-hkd]
 have hk0:((kd:Int) == 0)=false:=by simp;omega
 replace hkd:=Hd hkd
 have c1:=h3.out.scan.c1
 have fz:=h3.out.scan.blk.frz 1 none
 go_wp2_with fail
 have e4:(at_:Int)+1=((at_+1:Nat):Int):=by omega
 rw [e4]
 have hf4:Fr (fun k=>k=g) w (W3.setCell ⟨g,1,none⟩ (.int .i64 ((at_+1:Nat):Int))):=Fr.setCell (S:=fun k=>k=g) (Ag hb3.out) (fun _=>rfl) _
 have h4:RS rp w0 (W3.setCell ⟨g,1,none⟩ (.int .i64 ((at_+1:Nat):Int))) g b o n cap s (at_+1) many:=h3.out.next (Fr.setCell (S:=fun k=>k=g) (Fr.refl _ _) (fun _=>rfl) _) (h3.out.scan.move _) (by omega)
 have hz4:(W3.setCell ⟨g,1,none⟩ (.int .i64 ((at_+1:Nat):Int))).rangeAt w.heap.size 0 [.int .i64 0,.string ⟨#[]⟩,.int .i64 0,.float .f64 0,.bool false,.slice none 0 0]:=fun q x hq=>by
   rw [Ab (fun e=>by have:=congrArg Addr.block e;simp at this;omega)];exact hz3.out q x hq
 have hk4:Blk (W3.setCell ⟨g,1,none⟩ (.int .i64 ((at_+1:Nat):Int))) w.heap.size:=hk3.out.setCell _ _
 generalize W3.setCell ⟨g,1,none⟩ (.int .i64 ((at_+1:Nat):Int))=W4 at *
 clear c1 fz e4
 replace h4:=Hd h4
 replace hf4:=Hd hf4
 replace hz4:=Hd hz4
 replace hk4:=Hd hk4
 refine (Cs h4.out.scan h4.out.le (by rw [hL2.out];exact hl.out)).mono ?_
 rintro e W6 ⟨rfl,hf6,hs6,hle6⟩
 have h6:=h4.out.next hf6 hs6 hle6
 have hf06:=hf4.out.trans hf6
 have hne6:¬w.heap.size=g:=by omega
 have hz6:W6.rangeAt w.heap.size 0 [.int .i64 0,.string ⟨#[]⟩,.int .i64 0,.float .f64 0,.bool false,.slice none 0 0]:=fun q x hq=>hf6.cell (hz4.out q x hq) hne6
 have hk6:Blk W6 w.heap.size:=hk4.out.fr hf6 hne6
 clear hf6 hs6 hle6
 replace h6:=Hd h6
 replace hf06:=Hd hf06
 replace hz6:=Hd hz6
 replace hk6:=Hd hk6
 rcases hk with rfl | rfl
 · go_wp2_with fail
   refine (nilR_any _).mono ?_;rintro e W7 ⟨rfl,hb⟩;have h7:=h6.out.grow hb;have hf7:=hf06.out.trans (Ag (g:=g) hb);have hz7:W7.rangeAt w.heap.size 0 [.int .i64 0,.string ⟨#[]⟩,.int .i64 0,.float .f64 0,.bool false,.slice none 0 0]:=fun q x hq=>by rw [(hb).cell (World.block_lt_of_cell? _ _ (hz6.out q x hq))];exact hz6.out q x hq
   have hk7:Blk W7 w.heap.size:=hk6.out.of_block ((hb).block _ hk6.out.lt);replace h7:=Hd h7;replace hf7:=Hd hf7;replace hz7:=Hd hz7;replace hk7:=Hd hk7;clear hb;have htC:=Ao (n:=6) hz7.out hk7.out rfl;have hrR:(W7.setCells w.heap.size 0 [.int .i64 6,.string (⟨#[]⟩:ByteArray),.int .i64 0,.float .f64 0,.bool false,.slice none 0 0]).rangeAt w.heap.size 0 [.int .i64 6,.string (⟨#[]⟩:ByteArray),.int .i64 0,.float .f64 0,.bool false,.slice none 0 0]:=World.rangeAt_setCells_same _ _ _ _ htC;have hfw:Fr (fun k=>k=w.heap.size) W7 (W7.setCells w.heap.size 0 [.int .i64 6,.string (⟨#[]⟩:ByteArray),.int .i64 0,.float .f64 0,.bool false,.slice none 0 0]):=Fr.setCells (S:=fun k=>k=w.heap.size) (fun _=>rfl) _ _ _ (Fr.refl _ _);have hff:=hf7.out.trans_new hfw (fun i hi e=>by omega)
   have hrs:RS rp w0 (W7.setCells w.heap.size 0 [.int .i64 6,.string (⟨#[]⟩:ByteArray),.int .i64 0,.float .f64 0,.bool false,.slice none 0 0]) g b o n cap s _ many:=⟨h7.out.scan.fr hfw (by omega) (by omega),h7.out.env,h7.out.below.trans (hfw.below h7.out.below.size (fun i hi e=>by have:=h7.out.below.size;have:=h7.out.base;omega)),h7.out.base,h7.out.le⟩;replace htC:=Hd htC;replace hrR:=Hd hrR;replace hff:=Hd hff;replace hrs:=Hd hrs;clear hfw;go_wp2_with (refine wpList_store_mid rfl 26 _ _ rfl w.heap.size 0 _ rfl rfl htC.out Ai (one6 _ _ _ _ _ _ _ _) ?_)
   refine bodyPost_ret (Ap (v:=.agg #[.int .i64 6,.string (⟨#[]⟩:ByteArray),.int .i64 0,.float .f64 0,.bool false,.slice none 0 0]) rfl rfl (run_loadVar_mid (P:=Tryz.prog) _ _ 0 26 _ _ hrR.out Tryz.underlying26 rfl Ai)) rfl ?_;exact ⟨none,0,rfl,RV.leaf _ _ _ _ _ _ _ _,hff.out,by rw [show at_+(1+u)=at_+1+u by omega];exact hrs.out⟩
 · go_wp2_with fail
   refine (nilR_any _).mono ?_;rintro e W7 ⟨rfl,hb⟩;have h7:=h6.out.grow hb;have hf7:=hf06.out.trans (Ag (g:=g) hb);have hz7:W7.rangeAt w.heap.size 0 [.int .i64 0,.string ⟨#[]⟩,.int .i64 0,.float .f64 0,.bool false,.slice none 0 0]:=fun q x hq=>by rw [(hb).cell (World.block_lt_of_cell? _ _ (hz6.out q x hq))];exact hz6.out q x hq
   have hk7:Blk W7 w.heap.size:=hk6.out.of_block ((hb).block _ hk6.out.lt);replace h7:=Hd h7;replace hf7:=Hd hf7;replace hz7:=Hd hz7;replace hk7:=Hd hk7;clear hb;have htC:=Ao (n:=6) hz7.out hk7.out rfl;have hrR:(W7.setCells w.heap.size 0 [.int .i64 6,.string (⟨#[]⟩:ByteArray),.int .i64 0,.float .f64 0,.bool false,.slice none 0 0]).rangeAt w.heap.size 0 [.int .i64 6,.string (⟨#[]⟩:ByteArray),.int .i64 0,.float .f64 0,.bool false,.slice none 0 0]:=World.rangeAt_setCells_same _ _ _ _ htC;have hfw:Fr (fun k=>k=w.heap.size) W7 (W7.setCells w.heap.size 0 [.int .i64 6,.string (⟨#[]⟩:ByteArray),.int .i64 0,.float .f64 0,.bool false,.slice none 0 0]):=Fr.setCells (S:=fun k=>k=w.heap.size) (fun _=>rfl) _ _ _ (Fr.refl _ _);have hff:=hf7.out.trans_new hfw (fun i hi e=>by omega)
   have hrs:RS rp w0 (W7.setCells w.heap.size 0 [.int .i64 6,.string (⟨#[]⟩:ByteArray),.int .i64 0,.float .f64 0,.bool false,.slice none 0 0]) g b o n cap s _ many:=⟨h7.out.scan.fr hfw (by omega) (by omega),h7.out.env,h7.out.below.trans (hfw.below h7.out.below.size (fun i hi e=>by have:=h7.out.below.size;have:=h7.out.base;omega)),h7.out.base,h7.out.le⟩;replace htC:=Hd htC;replace hrR:=Hd hrR;replace hff:=Hd hff;replace hrs:=Hd hrs;clear hfw;go_wp2_with (refine wpList_store_mid rfl 26 _ _ rfl w.heap.size 0 _ rfl rfl htC.out Ai (one6 _ _ _ _ _ _ _ _) ?_)
   refine bodyPost_ret (Ap (v:=.agg #[.int .i64 6,.string (⟨#[]⟩:ByteArray),.int .i64 0,.float .f64 0,.bool false,.slice none 0 0]) rfl rfl (run_loadVar_mid (P:=Tryz.prog) _ _ 0 26 _ _ hrR.out Tryz.underlying26 rfl Ai)) rfl ?_;exact ⟨none,0,rfl,RV.leaf _ _ _ _ _ _ _ _,hff.out,by rw [show at_+(1+u)=at_+1+u by omega];exact hrs.out⟩
set_option maxRecDepth 100000 in
set_option maxHeartbeats 6400000 in
theorem value_num {rp:Rp} {w0 w:World} {g b o n cap at_ many u most:Nat} {s:ByteArray} {d:Int} {c:UInt8} {t L:List UInt8} (h:RS rp w0 w g b o n cap s at_ many) (hL:s.data.toList.drop at_=c :: L)
   (hk:(most=4096/\(Ac c=4\/Ac c=10\/Ac c=11))\/(most=1000/\(Ac c=5\/Ac c=13\/Ac c=14\/Ac c=12))) (hl:A7 L=.got (t,u)) (hn:¬(t=[45,49]/\(Ac c=4\/Ac c=5))) (hm:numS t most=none) :
   Calls Tryz.prog 46 #[.pointer (some ⟨g,0,none⟩),.int .i64 d] w fun e w' => e=B8 51/\Fr (fun k=>k=g) w w' := by
 obtain ⟨kd,hkd⟩:∃kd,kd=Ac c:=⟨_,rfl⟩
 rw [<-hkd] at hk hn
 have hts:(⟨t.toArray⟩:ByteArray).size<=1000000:=by
   have:=Df hl;rw [Am];show t.length<=_;omega
 have hmm:most<=100000:=by omega
 have hno:=fun W (hN:Nums W)=>number_no (w:=W) (t:=⟨t.toArray⟩) hts hmm hN hm
 have htl:((⟨t.toArray⟩:ByteArray).toList == [45,49])=decide (t=[45,49]):=by
   rw [ByteArray.toList_eq];show (t == [45,49])=_;rw [Bool.eq_iff_iff,beq_iff_eq,decide_eq_true_eq]
 replace hl:=Hd hl
 have hlt:at_<n:=by
   rcases Nat.lt_or_ge at_ n with hh | hh
   · exact hh
   · rw [List.drop_of_length_le (by rw [<-Am,h.scan.size];exact hh)] at hL;cases hL
 have hai:¬(n:Int)<=(at_:Int):=by omega
 have hai2:(at_:Int)<(n:Int):=by omega
 have hbig:=h.scan.big
 obtain ⟨hcel,hL2⟩:w.cell? ⟨b,o+at_,none⟩=some (.int .u8 (c.toNat:Int))/\s.data.toList.drop (at_+1)=L:=by
   have hz:=h.scan.size;have h1:=h.scan.bytes at_ (by omega);have e1:=Lib.data_getElem? s at_ (by omega);have e2:s.data.toList[at_]?=some c:=by
     have:=congrArg (·[0]?) hL
     simp only [List.getElem?_drop,Nat.add_zero] at this;exact this
   rw [e1] at e2;rw [h1,Option.some.inj e2];refine ⟨rfl,?_⟩;rw [<-List.drop_drop,hL];rfl
 have hcb:=World.block_lt_of_cell? _ _ hcel
 replace hcb:b<w.heap.size:=hcb
 replace hL:=Hd hL
 replace hL2:=Hd hL2
 replace hcel:=Hd hcel
 obtain ⟨W1,hW1⟩:∃W1,W1=w.alloc (.cells #[.int .i64 0,.string ⟨#[]⟩,.int .i64 0,.float .f64 0,.bool false,.slice none 0 0] 26):=⟨_,rfl⟩
 have hb1:Below w.heap.size w W1:=by rw [hW1];exact (Below.refl _ _).alloc (Nat.le_refl _) _
 have h1:=h.grow hb1
 have hz1:W1.rangeAt w.heap.size 0 [.int .i64 0,.string ⟨#[]⟩,.int .i64 0,.float .f64 0,.bool false,.slice none 0 0]:=by
   rw [hW1];intro q x hq;rw [Nat.zero_add,World.cell?_alloc_new];simpa using hq
 have hk1:Blk W1 w.heap.size:=by rw [hW1];exact Blk.new _ _ _
 have c0:=h1.scan.c0
 have c1:=h1.scan.c1
 have hgl:g<W1.heap.size:=h1.scan.blk.lt
 have hgw:g<w.heap.size:=h.scan.blk.lt
 replace hW1:=Hd hW1
 replace hb1:=Hd hb1
 replace h1:=Hd h1
 replace hz1:=Hd hz1
 replace hk1:=Hd hk1
 replace h:=Hd h
 go_enter Tryz.func46,Tryz.ntmps46
 go_wp2_with fail
 rw [<-hW1.out]
 refine Ad (by kernel_rfl) (by kernel_rfl) ?_
 repeat (go_big_quiet_step ((fail)))
 refine wpQuiet_nil ?_
 rintro _ ⟨xq,rfl⟩
 have hS:=Ae W1 xq
 obtain ⟨W2,hW2⟩:∃W2,W2=grow W1 xq:=⟨_,rfl⟩
 rw [<-hW2] at hS ⊢
 replace hW2:=Hd hW2
 have h2:=h1.out.grow hS
 have hb2:Below w.heap.size w W2:=hb1.out.trans (hS.mono hb1.out.size)
 have hz2:W2.rangeAt w.heap.size 0 [.int .i64 0,.string ⟨#[]⟩,.int .i64 0,.float .f64 0,.bool false,.slice none 0 0]:=fun q x hq=>by rw [hS.cell (World.block_lt_of_cell? _ _ (hz1.out q x hq))];exact hz1.out q x hq
 have hk2:Blk W2 w.heap.size:=hk1.out.of_block (hS.block _ hk1.out.lt)
 clear c0 c1 hS
 replace h2:=Hd h2
 replace hb2:=Hd hb2
 replace hz2:=Hd hz2
 replace hk2:=Hd hk2
 have c0:=h2.out.scan.c0
 have c1:=h2.out.scan.c1
 have cc:=(hb2.out.cell (p:=⟨b,o+at_,none⟩) hcb).trans hcel.out
 have hgl2:g<W2.heap.size:=h2.out.scan.blk.lt
 have hbl2:b<W2.heap.size:=Nat.lt_of_lt_of_le hcb hb2.out.size
 go_wp2_with fail
 refine Ad (by kernel_rfl) (by kernel_rfl) ?_
 repeat (go_big_quiet_step ((go_at_call 63;(with_reducible exact A0 (Bc _ _)))))
 refine wpQuiet_nil ?_
 rintro _ ⟨xq,rfl⟩
 have hS:=Ae W2 xq
 obtain ⟨W3,hW3⟩:∃W3,W3=grow W2 xq:=⟨_,rfl⟩
 rw [<-hW3] at hS ⊢
 replace hW3:=Hd hW3
 have h3:=h2.out.grow hS
 have hb3:Below w.heap.size w W3:=hb2.out.trans (hS.mono hb2.out.size)
 have hz3:W3.rangeAt w.heap.size 0 [.int .i64 0,.string ⟨#[]⟩,.int .i64 0,.float .f64 0,.bool false,.slice none 0 0]:=fun q x hq=>by rw [hS.cell (World.block_lt_of_cell? _ _ (hz2.out q x hq))];exact hz2.out q x hq
 have hk3:Blk W3 w.heap.size:=hk2.out.of_block (hS.block _ hk2.out.lt)
 clear c0 c1 hS cc
 replace h3:=Hd h3
 replace hb3:=Hd hb3
 replace hz3:=Hd hz3
 replace hk3:=Hd hk3
 rw [<-hkd]
 have hk0:((kd:Int) == 0)=false:=by simp;omega
 replace hkd:=Hd hkd
 have c1:=h3.out.scan.c1
 have fz:=h3.out.scan.blk.frz 1 none
 go_wp2_with fail
 have e4:(at_:Int)+1=((at_+1:Nat):Int):=by omega
 rw [e4]
 have hf4:Fr (fun k=>k=g) w (W3.setCell ⟨g,1,none⟩ (.int .i64 ((at_+1:Nat):Int))):=Fr.setCell (S:=fun k=>k=g) (Ag hb3.out) (fun _=>rfl) _
 have h4:RS rp w0 (W3.setCell ⟨g,1,none⟩ (.int .i64 ((at_+1:Nat):Int))) g b o n cap s (at_+1) many:=h3.out.next (Fr.setCell (S:=fun k=>k=g) (Fr.refl _ _) (fun _=>rfl) _) (h3.out.scan.move _) (by omega)
 have hz4:(W3.setCell ⟨g,1,none⟩ (.int .i64 ((at_+1:Nat):Int))).rangeAt w.heap.size 0 [.int .i64 0,.string ⟨#[]⟩,.int .i64 0,.float .f64 0,.bool false,.slice none 0 0]:=fun q x hq=>by
   rw [Ab (fun e=>by have:=congrArg Addr.block e;simp at this;omega)];exact hz3.out q x hq
 have hk4:Blk (W3.setCell ⟨g,1,none⟩ (.int .i64 ((at_+1:Nat):Int))) w.heap.size:=hk3.out.setCell _ _
 generalize W3.setCell ⟨g,1,none⟩ (.int .i64 ((at_+1:Nat):Int))=W4 at *
 clear c1 fz e4
 replace h4:=Hd h4
 replace hf4:=Hd hf4
 replace hz4:=Hd hz4
 replace hk4:=Hd hk4
 refine (Cs h4.out.scan h4.out.le (by rw [hL2.out];exact hl.out)).mono ?_
 rintro e W6 ⟨rfl,hf6,hs6,hle6⟩
 have h6:=h4.out.next hf6 hs6 hle6
 have hf06:=hf4.out.trans hf6
 have hne6:¬w.heap.size=g:=by omega
 have hz6:W6.rangeAt w.heap.size 0 [.int .i64 0,.string ⟨#[]⟩,.int .i64 0,.float .f64 0,.bool false,.slice none 0 0]:=fun q x hq=>hf6.cell (hz4.out q x hq) hne6
 have hk6:Blk W6 w.heap.size:=hk4.out.fr hf6 hne6
 clear hf6 hs6 hle6
 replace h6:=Hd h6
 replace hf06:=Hd hf06
 replace hz6:=Hd hz6
 replace hk6:=Hd hk6
 have hno6:=hno _ h6.out.nums
 replace hno6:=Hd hno6
 generalize (⟨t.toArray⟩:ByteArray)=T at *
 clear hno hts
 by_cases ht:t=[45,49]
 · rw [decide_eq_true ht] at htl
   rcases hk with ⟨rfl,rfl | rfl | rfl⟩ | ⟨rfl,rfl | rfl | rfl | rfl⟩;all_goals first | exact absurd ⟨ht,.inl rfl⟩ hn | exact absurd ⟨ht,.inr rfl⟩ hn | skip
   all_goals
     clear hn
     go_wp2_with fail
     refine hno6.out.mono ?_
     rintro e w' ⟨rfl,hb⟩
     exact ⟨rfl,rfl,hf06.out.trans (Ag (g:=g) hb)⟩
 · rw [decide_eq_false ht] at htl
   replace ht:=Hd ht;rcases hk with ⟨rfl,rfl | rfl | rfl⟩ | ⟨rfl,rfl | rfl | rfl | rfl⟩
   all_goals
     clear hn
     go_wp2_with fail
     refine hno6.out.mono ?_
     rintro e w' ⟨rfl,hb⟩
     exact ⟨rfl,rfl,hf06.out.trans (Ag (g:=g) hb)⟩
theorem long_len {L x:List UInt8} {k:Nat} (h:Cg L k=.got x):x.length=k:=by
 unfold Cg at h;split at h
 · cases h
 · split at h
   · cases h
   · simp only [Out.got.injEq] at h
     rw [<-h,List.length_take];omega
theorem Fq {t:List UInt8} {most k:Nat} (h:numS t most=some k):k<=most:=by
 unfold numS at h;split at h
 · split at h
   · have:=Option.some.inj h;omega
   · cases h
 · cases h
set_option maxRecDepth 100000 in
set_option maxHeartbeats 6400000 in
theorem value_lstop {rp:Rp} {w0 w:World} {g b o n cap at_ many u q len:Nat} {s:ByteArray} {d:Int} {c:UInt8} {t L:List UInt8} (h:RS rp w0 w g b o n cap s at_ many) (hL:s.data.toList.drop at_=c :: L)
   (hk:Ac c=4\/Ac c=10\/Ac c=11) (hl:A7 L=.got (t,u)) (hn:¬(t=[45,49]/\(Ac c=4\/Ac c=5))) (hm:numS t 4096=some len) (hlo:Cg (L.drop u) len=.stop q) :
   Calls Tryz.prog 46 #[.pointer (some ⟨g,0,none⟩),.int .i64 d] w fun e w' => e=B8 q/\Fr (fun k=>k=g) w w' := by
 have hle:len<=4096:=Fq hm
 obtain ⟨kd,hkd⟩:∃kd,kd=Ac c:=⟨_,rfl⟩
 rw [<-hkd] at hk hn
 have hlen:=Df hl
 have hts:(⟨t.toArray⟩:ByteArray).size<=1000000:=by
   rw [Am];show t.length<=_;omega
 have htl:((⟨t.toArray⟩:ByteArray).toList == [45,49])=decide (t=[45,49]):=by
   rw [ByteArray.toList_eq];show (t == [45,49])=_;rw [Bool.eq_iff_iff,beq_iff_eq,decide_eq_true_eq]
 replace hl:=Hd hl
 have hlt:at_<n:=by
   rcases Nat.lt_or_ge at_ n with hh | hh
   · exact hh
   · rw [List.drop_of_length_le (by rw [<-Am,h.scan.size];exact hh)] at hL;cases hL
 have hai:¬(n:Int)<=(at_:Int):=by omega
 have hai2:(at_:Int)<(n:Int):=by omega
 have hbig:=h.scan.big
 obtain ⟨hcel,hL2⟩:w.cell? ⟨b,o+at_,none⟩=some (.int .u8 (c.toNat:Int))/\s.data.toList.drop (at_+1)=L:=by
   have hz:=h.scan.size;have h1:=h.scan.bytes at_ (by omega);have e1:=Lib.data_getElem? s at_ (by omega);have e2:s.data.toList[at_]?=some c:=by
     have:=congrArg (·[0]?) hL
     simp only [List.getElem?_drop,Nat.add_zero] at this;exact this
   rw [e1] at e2;rw [h1,Option.some.inj e2];refine ⟨rfl,?_⟩;rw [<-List.drop_drop,hL];rfl
 have hcb:=World.block_lt_of_cell? _ _ hcel
 replace hcb:b<w.heap.size:=hcb
 replace hL:=Hd hL
 replace hL2:=Hd hL2
 replace hcel:=Hd hcel
 obtain ⟨W1,hW1⟩:∃W1,W1=w.alloc (.cells #[.int .i64 0,.string ⟨#[]⟩,.int .i64 0,.float .f64 0,.bool false,.slice none 0 0] 26):=⟨_,rfl⟩
 have hb1:Below w.heap.size w W1:=by rw [hW1];exact (Below.refl _ _).alloc (Nat.le_refl _) _
 have h1:=h.grow hb1
 have hz1:W1.rangeAt w.heap.size 0 [.int .i64 0,.string ⟨#[]⟩,.int .i64 0,.float .f64 0,.bool false,.slice none 0 0]:=by
   rw [hW1];intro q x hq;rw [Nat.zero_add,World.cell?_alloc_new];simpa using hq
 have hk1:Blk W1 w.heap.size:=by rw [hW1];exact Blk.new _ _ _
 have c0:=h1.scan.c0
 have c1:=h1.scan.c1
 have hgl:g<W1.heap.size:=h1.scan.blk.lt
 have hgw:g<w.heap.size:=h.scan.blk.lt
 replace hW1:=Hd hW1
 replace hb1:=Hd hb1
 replace h1:=Hd h1
 replace hz1:=Hd hz1
 replace hk1:=Hd hk1
 replace h:=Hd h
 go_enter Tryz.func46,Tryz.ntmps46
 go_wp2_with fail
 rw [<-hW1.out]
 refine Ad (by kernel_rfl) (by kernel_rfl) ?_
 repeat (go_big_quiet_step ((fail)))
 refine wpQuiet_nil ?_
 rintro _ ⟨xq,rfl⟩
 have hS:=Ae W1 xq
 obtain ⟨W2,hW2⟩:∃W2,W2=grow W1 xq:=⟨_,rfl⟩
 rw [<-hW2] at hS ⊢
 replace hW2:=Hd hW2
 have h2:=h1.out.grow hS
 have hb2:Below w.heap.size w W2:=hb1.out.trans (hS.mono hb1.out.size)
 have hz2:W2.rangeAt w.heap.size 0 [.int .i64 0,.string ⟨#[]⟩,.int .i64 0,.float .f64 0,.bool false,.slice none 0 0]:=fun q x hq=>by rw [hS.cell (World.block_lt_of_cell? _ _ (hz1.out q x hq))];exact hz1.out q x hq
 have hk2:Blk W2 w.heap.size:=hk1.out.of_block (hS.block _ hk1.out.lt)
 clear c0 c1 hS
 replace h2:=Hd h2
 replace hb2:=Hd hb2
 replace hz2:=Hd hz2
 replace hk2:=Hd hk2
 have c0:=h2.out.scan.c0
 have c1:=h2.out.scan.c1
 have cc:=(hb2.out.cell (p:=⟨b,o+at_,none⟩) hcb).trans hcel.out
 have hgl2:g<W2.heap.size:=h2.out.scan.blk.lt
 have hbl2:b<W2.heap.size:=Nat.lt_of_lt_of_le hcb hb2.out.size
 go_wp2_with fail
 refine Ad (by kernel_rfl) (by kernel_rfl) ?_
 repeat (go_big_quiet_step ((go_at_call 63;(with_reducible exact A0 (Bc _ _)))))
 refine wpQuiet_nil ?_
 rintro _ ⟨xq,rfl⟩
 have hS:=Ae W2 xq
 obtain ⟨W3,hW3⟩:∃W3,W3=grow W2 xq:=⟨_,rfl⟩
 rw [<-hW3] at hS ⊢
 replace hW3:=Hd hW3
 have h3:=h2.out.grow hS
 have hb3:Below w.heap.size w W3:=hb2.out.trans (hS.mono hb2.out.size)
 have hz3:W3.rangeAt w.heap.size 0 [.int .i64 0,.string ⟨#[]⟩,.int .i64 0,.float .f64 0,.bool false,.slice none 0 0]:=fun q x hq=>by rw [hS.cell (World.block_lt_of_cell? _ _ (hz2.out q x hq))];exact hz2.out q x hq
 have hk3:Blk W3 w.heap.size:=hk2.out.of_block (hS.block _ hk2.out.lt)
 clear c0 c1 hS cc
 replace h3:=Hd h3
 replace hb3:=Hd hb3
 replace hz3:=Hd hz3
 replace hk3:=Hd hk3
 rw [<-hkd]
 have hk0:((kd:Int) == 0)=false:=by simp;omega
 replace hkd:=Hd hkd
 have c1:=h3.out.scan.c1
 have fz:=h3.out.scan.blk.frz 1 none
 go_wp2_with fail
 have e4:(at_:Int)+1=((at_+1:Nat):Int):=by omega
 rw [e4]
 have hf4:Fr (fun k=>k=g) w (W3.setCell ⟨g,1,none⟩ (.int .i64 ((at_+1:Nat):Int))):=Fr.setCell (S:=fun k=>k=g) (Ag hb3.out) (fun _=>rfl) _
 have h4:RS rp w0 (W3.setCell ⟨g,1,none⟩ (.int .i64 ((at_+1:Nat):Int))) g b o n cap s (at_+1) many:=h3.out.next (Fr.setCell (S:=fun k=>k=g) (Fr.refl _ _) (fun _=>rfl) _) (h3.out.scan.move _) (by omega)
 have hz4:(W3.setCell ⟨g,1,none⟩ (.int .i64 ((at_+1:Nat):Int))).rangeAt w.heap.size 0 [.int .i64 0,.string ⟨#[]⟩,.int .i64 0,.float .f64 0,.bool false,.slice none 0 0]:=fun q x hq=>by
   rw [Ab (fun e=>by have:=congrArg Addr.block e;simp at this;omega)];exact hz3.out q x hq
 have hk4:Blk (W3.setCell ⟨g,1,none⟩ (.int .i64 ((at_+1:Nat):Int))) w.heap.size:=hk3.out.setCell _ _
 generalize W3.setCell ⟨g,1,none⟩ (.int .i64 ((at_+1:Nat):Int))=W4 at *
 clear c1 fz e4
 replace h4:=Hd h4
 replace hf4:=Hd hf4
 replace hz4:=Hd hz4
 replace hk4:=Hd hk4
 refine (Cs h4.out.scan h4.out.le (by rw [hL2.out];exact hl.out)).mono ?_
 rintro e W6 ⟨rfl,hf6,hs6,hle6⟩
 have h6:=h4.out.next hf6 hs6 hle6
 have hf06:=hf4.out.trans hf6
 have hne6:¬w.heap.size=g:=by omega
 have hz6:W6.rangeAt w.heap.size 0 [.int .i64 0,.string ⟨#[]⟩,.int .i64 0,.float .f64 0,.bool false,.slice none 0 0]:=fun q x hq=>hf6.cell (hz4.out q x hq) hne6
 have hk6:Blk W6 w.heap.size:=hk4.out.fr hf6 hne6
 clear hf6 hs6 hle6
 replace h6:=Hd h6
 replace hf06:=Hd hf06
 replace hz6:=Hd hz6
 replace hk6:=Hd hk6
 have hno6:=Er (w:=W6) (t:=⟨t.toArray⟩) (most:=4096) hts (by omega) h6.out.nums hm
 have hlg:∀W,Below W6.heap.size W6 W->Calls Tryz.prog 67 #[.pointer (some ⟨g,0,none⟩),.int .i64 (len:Int)] W fun e w' => e=B8 q/\Below W.heap.size W w' := fun W hW=>
   long_stop (h6.out.grow hW).scan (h6.out.grow hW).le (by omega) (by rw [<-List.drop_drop,hL2.out];exact hlo)
 replace hno6:=Hd hno6
 replace hlg:=Hd hlg
 clear hm hlo hlen hts
 generalize (⟨t.toArray⟩:ByteArray)=T at *
 go_upto_region 8 with fail
 go_cut [51] from 43 to 51 (fun s5 wx=>s5=.bool false/\wx=W6)
 case first=>
   rcases hk with rfl | rfl | rfl
   · by_cases ht:t=[45,49]
     · exact absurd ⟨ht,.inl rfl⟩ hn
     · rw [decide_eq_false ht] at htl
       replace ht:=Hd ht;clear hn;go_wp2_with fail
       go_meet
       exact ⟨rfl,rfl⟩
   all_goals
     clear hn
     rcases Bool.eq_false_or_eq_true (decide (t=[45,49])) with hd | hd
     all_goals
       rw [hd] at htl
       replace hd:=Hd hd
       go_wp2_with fail
       go_meet
       exact ⟨rfl,rfl⟩
 obtain ⟨rfl,hww⟩:=hcut
 obtain rfl:=hww.symm
 clear hww hn htl
 go_upto_if 54 with fail
 go_cut [54] from 54 to 57 (fun s5 wx=>s5=.bool true/\wx=W6)
 case first=>
   rcases hk with rfl | rfl | rfl
   all_goals
     go_wp2_with fail
     go_meet
     exact ⟨rfl,rfl⟩
 obtain ⟨rfl,hww⟩:=hcut
 obtain rfl:=hww.symm
 clear hww
 go_wp2_with fail
 refine hno6.out.mono ?_
 rintro e W7 ⟨rfl,hb⟩
 go_wp2_with fail
 refine (hlg.out W7 hb).mono ?_
 rintro e w' ⟨rfl,hb2⟩
 exact ⟨rfl,rfl,hf06.out.trans (Ag (g:=g) (hb.trans (hb2.mono hb.size)))⟩
set_option maxRecDepth 100000 in
set_option maxHeartbeats 6400000 in
theorem value_ltext {rp:Rp} {w0 w:World} {g b o n cap at_ many u len:Nat} {s:ByteArray} {d:Int} {c:UInt8} {t L x:List UInt8} (h:RS rp w0 w g b o n cap s at_ many) (hL:s.data.toList.drop at_=c :: L)
   (hk:Ac c=4\/Ac c=10\/Ac c=11) (hl:A7 L=.got (t,u)) (hn:¬(t=[45,49]/\(Ac c=4\/Ac c=5))) (hm:numS t 4096=some len) (hlo:Cg (L.drop u) len=.got x) (ok:okV (Ay (Ac c) ⟨x.toArray⟩ 0 0 false)=true) :
   Calls Tryz.prog 46 #[.pointer (some ⟨g,0,none⟩),.int .i64 d] w (ValQ rp w0 g b o n cap s at_ (.got (Ay (Ac c) ⟨x.toArray⟩ 0 0 false,1+u+(len+2),many)) w):=by
 have hle:len<=4096:=Fq hm
 obtain ⟨kd,hkd⟩:∃kd,kd=Ac c:=⟨_,rfl⟩
 rw [<-hkd] at hk hn
 have hlen:=Df hl
 have hts:(⟨t.toArray⟩:ByteArray).size<=1000000:=by
   rw [Am];show t.length<=_;omega
 have htl:((⟨t.toArray⟩:ByteArray).toList == [45,49])=decide (t=[45,49]):=by
   rw [ByteArray.toList_eq];show (t == [45,49])=_;rw [Bool.eq_iff_iff,beq_iff_eq,decide_eq_true_eq]
 replace hl:=Hd hl
 have hlt:at_<n:=by
   rcases Nat.lt_or_ge at_ n with hh | hh
   · exact hh
   · rw [List.drop_of_length_le (by rw [<-Am,h.scan.size];exact hh)] at hL;cases hL
 have hai:¬(n:Int)<=(at_:Int):=by omega
 have hai2:(at_:Int)<(n:Int):=by omega
 have hbig:=h.scan.big
 obtain ⟨hcel,hL2⟩:w.cell? ⟨b,o+at_,none⟩=some (.int .u8 (c.toNat:Int))/\s.data.toList.drop (at_+1)=L:=by
   have hz:=h.scan.size;have h1:=h.scan.bytes at_ (by omega);have e1:=Lib.data_getElem? s at_ (by omega);have e2:s.data.toList[at_]?=some c:=by
     have:=congrArg (·[0]?) hL
     simp only [List.getElem?_drop,Nat.add_zero] at this;exact this
   rw [e1] at e2;rw [h1,Option.some.inj e2];refine ⟨rfl,?_⟩;rw [<-List.drop_drop,hL];rfl
 have hcb:=World.block_lt_of_cell? _ _ hcel
 replace hcb:b<w.heap.size:=hcb
 replace hL:=Hd hL
 replace hL2:=Hd hL2
 replace hcel:=Hd hcel
 obtain ⟨W1,hW1⟩:∃W1,W1=w.alloc (.cells #[.int .i64 0,.string ⟨#[]⟩,.int .i64 0,.float .f64 0,.bool false,.slice none 0 0] 26):=⟨_,rfl⟩
 have hb1:Below w.heap.size w W1:=by rw [hW1];exact (Below.refl _ _).alloc (Nat.le_refl _) _
 have h1:=h.grow hb1
 have hz1:W1.rangeAt w.heap.size 0 [.int .i64 0,.string ⟨#[]⟩,.int .i64 0,.float .f64 0,.bool false,.slice none 0 0]:=by
   rw [hW1];intro q x hq;rw [Nat.zero_add,World.cell?_alloc_new];simpa using hq
 have hk1:Blk W1 w.heap.size:=by rw [hW1];exact Blk.new _ _ _
 have c0:=h1.scan.c0
 have c1:=h1.scan.c1
 have hgl:g<W1.heap.size:=h1.scan.blk.lt
 have hgw:g<w.heap.size:=h.scan.blk.lt
 replace hW1:=Hd hW1
 replace hb1:=Hd hb1
 replace h1:=Hd h1
 replace hz1:=Hd hz1
 replace hk1:=Hd hk1
 replace h:=Hd h
 go_enter Tryz.func46,Tryz.ntmps46
 go_wp2_with fail
 rw [<-hW1.out]
 refine Ad (by kernel_rfl) (by kernel_rfl) ?_
 repeat (go_big_quiet_step ((fail)))
 refine wpQuiet_nil ?_
 rintro _ ⟨xq,rfl⟩
 have hS:=Ae W1 xq
 obtain ⟨W2,hW2⟩:∃W2,W2=grow W1 xq:=⟨_,rfl⟩
 rw [<-hW2] at hS ⊢
 replace hW2:=Hd hW2
 have h2:=h1.out.grow hS
 have hb2:Below w.heap.size w W2:=hb1.out.trans (hS.mono hb1.out.size)
 have hz2:W2.rangeAt w.heap.size 0 [.int .i64 0,.string ⟨#[]⟩,.int .i64 0,.float .f64 0,.bool false,.slice none 0 0]:=fun q x hq=>by rw [hS.cell (World.block_lt_of_cell? _ _ (hz1.out q x hq))];exact hz1.out q x hq
 have hk2:Blk W2 w.heap.size:=hk1.out.of_block (hS.block _ hk1.out.lt)
 clear c0 c1 hS
 replace h2:=Hd h2
 replace hb2:=Hd hb2
 replace hz2:=Hd hz2
 replace hk2:=Hd hk2
 have c0:=h2.out.scan.c0
 have c1:=h2.out.scan.c1
 have cc:=(hb2.out.cell (p:=⟨b,o+at_,none⟩) hcb).trans hcel.out
 have hgl2:g<W2.heap.size:=h2.out.scan.blk.lt
 have hbl2:b<W2.heap.size:=Nat.lt_of_lt_of_le hcb hb2.out.size
 go_wp2_with fail
 refine Ad (by kernel_rfl) (by kernel_rfl) ?_
 repeat (go_big_quiet_step ((go_at_call 63;(with_reducible exact A0 (Bc _ _)))))
 refine wpQuiet_nil ?_
 rintro _ ⟨xq,rfl⟩
 have hS:=Ae W2 xq
 obtain ⟨W3,hW3⟩:∃W3,W3=grow W2 xq:=⟨_,rfl⟩
 rw [<-hW3] at hS ⊢
 replace hW3:=Hd hW3
 have h3:=h2.out.grow hS
 have hb3:Below w.heap.size w W3:=hb2.out.trans (hS.mono hb2.out.size)
 have hz3:W3.rangeAt w.heap.size 0 [.int .i64 0,.string ⟨#[]⟩,.int .i64 0,.float .f64 0,.bool false,.slice none 0 0]:=fun q x hq=>by rw [hS.cell (World.block_lt_of_cell? _ _ (hz2.out q x hq))];exact hz2.out q x hq
 have hk3:Blk W3 w.heap.size:=hk2.out.of_block (hS.block _ hk2.out.lt)
 clear c0 c1 hS cc
 replace h3:=Hd h3
 replace hb3:=Hd hb3
 replace hz3:=Hd hz3
 replace hk3:=Hd hk3
 rw [<-hkd]
 have hk0:((kd:Int) == 0)=false:=by simp;omega
 replace hkd:=Hd hkd
 have c1:=h3.out.scan.c1
 have fz:=h3.out.scan.blk.frz 1 none
 go_wp2_with fail
 have e4:(at_:Int)+1=((at_+1:Nat):Int):=by omega
 rw [e4]
 have hf4:Fr (fun k=>k=g) w (W3.setCell ⟨g,1,none⟩ (.int .i64 ((at_+1:Nat):Int))):=Fr.setCell (S:=fun k=>k=g) (Ag hb3.out) (fun _=>rfl) _
 have h4:RS rp w0 (W3.setCell ⟨g,1,none⟩ (.int .i64 ((at_+1:Nat):Int))) g b o n cap s (at_+1) many:=h3.out.next (Fr.setCell (S:=fun k=>k=g) (Fr.refl _ _) (fun _=>rfl) _) (h3.out.scan.move _) (by omega)
 have hz4:(W3.setCell ⟨g,1,none⟩ (.int .i64 ((at_+1:Nat):Int))).rangeAt w.heap.size 0 [.int .i64 0,.string ⟨#[]⟩,.int .i64 0,.float .f64 0,.bool false,.slice none 0 0]:=fun q x hq=>by
   rw [Ab (fun e=>by have:=congrArg Addr.block e;simp at this;omega)];exact hz3.out q x hq
 have hk4:Blk (W3.setCell ⟨g,1,none⟩ (.int .i64 ((at_+1:Nat):Int))) w.heap.size:=hk3.out.setCell _ _
 generalize W3.setCell ⟨g,1,none⟩ (.int .i64 ((at_+1:Nat):Int))=W4 at *
 clear c1 fz e4
 replace h4:=Hd h4
 replace hf4:=Hd hf4
 replace hz4:=Hd hz4
 replace hk4:=Hd hk4
 refine (Cs h4.out.scan h4.out.le (by rw [hL2.out];exact hl.out)).mono ?_
 rintro e W6 ⟨rfl,hf6,hs6,hle6⟩
 have h6:=h4.out.next hf6 hs6 hle6
 have hf06:=hf4.out.trans hf6
 have hne6:¬w.heap.size=g:=by omega
 have hz6:W6.rangeAt w.heap.size 0 [.int .i64 0,.string ⟨#[]⟩,.int .i64 0,.float .f64 0,.bool false,.slice none 0 0]:=fun q x hq=>hf6.cell (hz4.out q x hq) hne6
 have hk6:Blk W6 w.heap.size:=hk4.out.fr hf6 hne6
 clear hf6 hs6 hle6
 replace h6:=Hd h6
 replace hf06:=Hd hf06
 replace hz6:=Hd hz6
 replace hk6:=Hd hk6
 have hno6:=Er (w:=W6) (t:=⟨t.toArray⟩) (most:=4096) hts (by omega) h6.out.nums hm
 have hxl:x.length<=4096:=by
   have:=long_len hlo;omega
 have hlg:∀W,Below W6.heap.size W6 W->Calls Tryz.prog 67 #[.pointer (some ⟨g,0,none⟩),.int .i64 (len:Int)] W fun e w' => e=.returned (.string ⟨x.toArray⟩)/\Fr (fun k=>k=g) W w' /\ Scan w' g b o n cap s (at_+1+u+(len+2)) many/\at_+1+u+(len+2)<=n:=fun W hW=>
   long_got (h6.out.grow hW).scan (h6.out.grow hW).le (by omega) (by rw [<-List.drop_drop,hL2.out];exact hlo)
 have hX:(⟨x.toArray⟩:ByteArray).size<=4096:=by rw [Am];exact hxl
 replace hno6:=Hd hno6
 replace hlg:=Hd hlg
 clear hm hlo hlen hts hxl
 generalize (⟨t.toArray⟩:ByteArray)=T at *
 rw [<-hkd.out] at ok ⊢
 generalize (⟨x.toArray⟩:ByteArray)=X at *
 replace ok:=Hd ok
 go_upto_region 8 with fail
 go_cut [51] from 43 to 51 (fun s5 wx=>s5=.bool false/\wx=W6)
 case first=>
   rcases hk with rfl | rfl | rfl
   · by_cases ht:t=[45,49]
     · exact absurd ⟨ht,.inl rfl⟩ hn
     · rw [decide_eq_false ht] at htl
       replace ht:=Hd ht;clear hn;go_wp2_with fail
       go_meet
       exact ⟨rfl,rfl⟩
   all_goals
     clear hn
     rcases Bool.eq_false_or_eq_true (decide (t=[45,49])) with hd | hd
     all_goals
       rw [hd] at htl
       replace hd:=Hd hd
       go_wp2_with fail
       go_meet
       exact ⟨rfl,rfl⟩
 obtain ⟨rfl,hww⟩:=hcut
 obtain rfl:=hww.symm
 clear hww hn htl
 go_upto_if 54 with fail
 go_cut [54] from 54 to 57 (fun s5 wx=>s5=.bool true/\wx=W6)
 case first=>
   rcases hk with rfl | rfl | rfl
   all_goals
     go_wp2_with fail
     go_meet
     exact ⟨rfl,rfl⟩
 obtain ⟨rfl,hww⟩:=hcut
 obtain rfl:=hww.symm
 clear hww
 go_wp2_with fail
 refine hno6.out.mono ?_
 rintro e W7 ⟨rfl,hb⟩
 have h7:=h6.out.grow hb
 have hf7:=hf06.out.trans (Ag (g:=g) hb)
 have hz7:W7.rangeAt w.heap.size 0 [.int .i64 0,.string ⟨#[]⟩,.int .i64 0,.float .f64 0,.bool false,.slice none 0 0]:=fun q x hq=>by rw [(hb).cell (World.block_lt_of_cell? _ _ (hz6.out q x hq))];exact hz6.out q x hq
 have hk7:Blk W7 w.heap.size:=hk6.out.of_block ((hb).block _ hk6.out.lt)
 replace h7:=Hd h7
 replace hf7:=Hd hf7
 replace hz7:=Hd hz7
 replace hk7:=Hd hk7
 go_wp2_with fail
 refine (hlg.out W7 hb).mono ?_
 rintro e W8 ⟨rfl,hf8,hs8,hl8⟩
 have h8:=h7.out.next hf8 hs8 hl8
 have hf08:=hf7.out.trans hf8
 have hne6:¬w.heap.size=g:=by omega
 have hz8:W8.rangeAt w.heap.size 0 [.int .i64 0,.string ⟨#[]⟩,.int .i64 0,.float .f64 0,.bool false,.slice none 0 0]:=fun q x hq=>hf8.cell (hz7.out q x hq) hne6
 have hk8:Blk W8 w.heap.size:=hk7.out.fr hf8 hne6
 obtain ⟨W9,hW9⟩:∃W9,W9=W8.alloc (.cells #[.int .i64 (kd:Int),.string X,.int .i64 0,.float .f64 0,.bool false,.slice none 0 0] 26):=⟨_,rfl⟩
 have hb9:Below W8.heap.size W8 W9:=by rw [hW9];exact (Below.refl _ _).alloc (Nat.le_refl _) _
 have hck:=Ct (kd:Int) X 0 0 false (by rcases hk with h | h | h<;>(rw [h];rfl)) (by omega) W9
 have hv9:W9.rangeAt W8.heap.size 0 [.int .i64 (kd:Int),.string X,.int .i64 0,.float .f64 0,.bool false,.slice none 0 0]:=by
   rw [hW9];intro q x hq;rw [Nat.zero_add,World.cell?_alloc_new];simpa using hq
 clear hf8 hs8 hl8 hb
 replace h8:=Hd h8
 replace hf08:=Hd hf08
 replace hz8:=Hd hz8
 replace hk8:=Hd hk8
 replace hv9:=Hd hv9
 replace hb9:=Hd hb9
 replace hW9:=Hd hW9
 rw [if_pos (by simpa using ok.out)] at hck
 replace hck:=Hd hck
 go_wp2_with fail
 rw [<-hW9.out]
 refine hck.out.mono ?_
 rintro e W10 ⟨rfl,hb10⟩
 have hb:=hb9.out.trans (hb10.mono hb9.out.size)
 have hv10:W10.rangeAt W8.heap.size 0 [.int .i64 (kd:Int),.string X,.int .i64 0,.float .f64 0,.bool false,.slice none 0 0]:=fun q x hq=>by rw [hb10.cell (World.block_lt_of_cell? _ _ (hv9.out q x hq))];exact hv9.out q x hq
 have hA:=h8.out.grow hb
 have hfA:=hf08.out.trans (Ag (g:=g) hb)
 have hzA:W10.rangeAt w.heap.size 0 [.int .i64 0,.string ⟨#[]⟩,.int .i64 0,.float .f64 0,.bool false,.slice none 0 0]:=fun q x hq=>by rw [hb.cell (World.block_lt_of_cell? _ _ (hz8.out q x hq))];exact hz8.out q x hq
 have hkA:Blk W10 w.heap.size:=hk8.out.of_block (hb.block _ hk8.out.lt)
 clear hb hb10
 replace hv10:=Hd hv10
 replace hA:=Hd hA
 replace hfA:=Hd hfA
 replace hzA:=Hd hzA
 replace hkA:=Hd hkA
 have htC:=Ao (n:=6) hzA.out hkA.out rfl
 have hrR:(W10.setCells w.heap.size 0 [.int .i64 (kd:Int),.string X,.int .i64 0,.float .f64 0,.bool false,.slice none 0 0]).rangeAt w.heap.size 0 [.int .i64 (kd:Int),.string X,.int .i64 0,.float .f64 0,.bool false,.slice none 0 0]:=World.rangeAt_setCells_same _ _ _ _ htC
 have hfw:Fr (fun k=>k=w.heap.size) W10 (W10.setCells w.heap.size 0 [.int .i64 (kd:Int),.string X,.int .i64 0,.float .f64 0,.bool false,.slice none 0 0]):=Fr.setCells (S:=fun k=>k=w.heap.size) (fun _=>rfl) _ _ _ (Fr.refl _ _)
 have hff:=hfA.out.trans_new hfw (fun i hi e=>by omega)
 have hrs:RS rp w0 (W10.setCells w.heap.size 0 [.int .i64 (kd:Int),.string X,.int .i64 0,.float .f64 0,.bool false,.slice none 0 0]) g b o n cap s _ many:=⟨hA.out.scan.fr hfw (by omega) (by omega),hA.out.env,hA.out.below.trans (hfw.below hA.out.below.size (fun i hi e=>by have:=hA.out.below.size;have:=hA.out.base;omega)),hA.out.base,hA.out.le⟩
 replace htC:=Hd htC
 replace hrR:=Hd hrR
 replace hff:=Hd hff
 replace hrs:=Hd hrs
 clear hfw
 go_wp2_with (first
   | (refine wpList_load_mid rfl 26 _ rfl W8.heap.size 0 rfl _ _ hv10.out Tryz.underlying26 rfl Ai ?_)
   | (refine wpList_store_mid rfl 26 _ _ rfl w.heap.size 0 _ rfl rfl htC.out Ai (one6 _ _ _ _ _ _ _ _) ?_))
 refine bodyPost_ret (Ap (v:=.agg #[.int .i64 (kd:Int),.string X,.int .i64 0,.float .f64 0,.bool false,.slice none 0 0]) rfl rfl (run_loadVar_mid (P:=Tryz.prog) _ _ 0 26 _ _ hrR.out Tryz.underlying26 rfl Ai)) rfl ?_
 rw [<-hkd.out]
 exact ⟨none,0,rfl,RV.leaf _ _ _ _ _ _ _ _,hff.out,by rw [show at_+(1+u+(len+2))=at_+1+u+(len+2) by omega];exact hrs.out⟩
set_option maxRecDepth 100000 in
set_option maxHeartbeats 6400000 in
theorem value_lbad {rp:Rp} {w0 w:World} {g b o n cap at_ many u len:Nat} {s:ByteArray} {d:Int} {c:UInt8} {t L x:List UInt8} (h:RS rp w0 w g b o n cap s at_ many) (hL:s.data.toList.drop at_=c :: L)
   (hk:Ac c=4\/Ac c=10\/Ac c=11) (hl:A7 L=.got (t,u)) (hn:¬(t=[45,49]/\(Ac c=4\/Ac c=5))) (hm:numS t 4096=some len) (hlo:Cg (L.drop u) len=.got x) (ok:¬okV (Ay (Ac c) ⟨x.toArray⟩ 0 0 false)=true) :
   Calls Tryz.prog 46 #[.pointer (some ⟨g,0,none⟩),.int .i64 d] w fun e w' => e=B8 51/\Fr (fun k=>k=g) w w' := by
 have hle:len<=4096:=Fq hm
 obtain ⟨kd,hkd⟩:∃kd,kd=Ac c:=⟨_,rfl⟩
 rw [<-hkd] at hk hn
 have hlen:=Df hl
 have hts:(⟨t.toArray⟩:ByteArray).size<=1000000:=by
   rw [Am];show t.length<=_;omega
 have htl:((⟨t.toArray⟩:ByteArray).toList == [45,49])=decide (t=[45,49]):=by
   rw [ByteArray.toList_eq];show (t == [45,49])=_;rw [Bool.eq_iff_iff,beq_iff_eq,decide_eq_true_eq]
 replace hl:=Hd hl
 have hlt:at_<n:=by
   rcases Nat.lt_or_ge at_ n with hh | hh
   · exact hh
   · rw [List.drop_of_length_le (by rw [<-Am,h.scan.size];exact hh)] at hL;cases hL
 have hai:¬(n:Int)<=(at_:Int):=by omega
 have hai2:(at_:Int)<(n:Int):=by omega
 have hbig:=h.scan.big
 obtain ⟨hcel,hL2⟩:w.cell? ⟨b,o+at_,none⟩=some (.int .u8 (c.toNat:Int))/\s.data.toList.drop (at_+1)=L:=by
   have hz:=h.scan.size;have h1:=h.scan.bytes at_ (by omega);have e1:=Lib.data_getElem? s at_ (by omega);have e2:s.data.toList[at_]?=some c:=by
     have:=congrArg (·[0]?) hL
     simp only [List.getElem?_drop,Nat.add_zero] at this;exact this
   rw [e1] at e2;rw [h1,Option.some.inj e2];refine ⟨rfl,?_⟩;rw [<-List.drop_drop,hL];rfl
 have hcb:=World.block_lt_of_cell? _ _ hcel
 replace hcb:b<w.heap.size:=hcb
 replace hL:=Hd hL
 replace hL2:=Hd hL2
 replace hcel:=Hd hcel
 obtain ⟨W1,hW1⟩:∃W1,W1=w.alloc (.cells #[.int .i64 0,.string ⟨#[]⟩,.int .i64 0,.float .f64 0,.bool false,.slice none 0 0] 26):=⟨_,rfl⟩
 have hb1:Below w.heap.size w W1:=by rw [hW1];exact (Below.refl _ _).alloc (Nat.le_refl _) _
 have h1:=h.grow hb1
 have hz1:W1.rangeAt w.heap.size 0 [.int .i64 0,.string ⟨#[]⟩,.int .i64 0,.float .f64 0,.bool false,.slice none 0 0]:=by
   rw [hW1];intro q x hq;rw [Nat.zero_add,World.cell?_alloc_new];simpa using hq
 have hk1:Blk W1 w.heap.size:=by rw [hW1];exact Blk.new _ _ _
 have c0:=h1.scan.c0
 have c1:=h1.scan.c1
 have hgl:g<W1.heap.size:=h1.scan.blk.lt
 have hgw:g<w.heap.size:=h.scan.blk.lt
 replace hW1:=Hd hW1
 replace hb1:=Hd hb1
 replace h1:=Hd h1
 replace hz1:=Hd hz1
 replace hk1:=Hd hk1
 replace h:=Hd h
 go_enter Tryz.func46,Tryz.ntmps46
 go_wp2_with fail
 rw [<-hW1.out]
 refine Ad (by kernel_rfl) (by kernel_rfl) ?_
 repeat (go_big_quiet_step ((fail)))
 refine wpQuiet_nil ?_
 rintro _ ⟨xq,rfl⟩
 have hS:=Ae W1 xq
 obtain ⟨W2,hW2⟩:∃W2,W2=grow W1 xq:=⟨_,rfl⟩
 rw [<-hW2] at hS ⊢
 replace hW2:=Hd hW2
 have h2:=h1.out.grow hS
 have hb2:Below w.heap.size w W2:=hb1.out.trans (hS.mono hb1.out.size)
 have hz2:W2.rangeAt w.heap.size 0 [.int .i64 0,.string ⟨#[]⟩,.int .i64 0,.float .f64 0,.bool false,.slice none 0 0]:=fun q x hq=>by rw [hS.cell (World.block_lt_of_cell? _ _ (hz1.out q x hq))];exact hz1.out q x hq
 have hk2:Blk W2 w.heap.size:=hk1.out.of_block (hS.block _ hk1.out.lt)
 clear c0 c1 hS
 replace h2:=Hd h2
 replace hb2:=Hd hb2
 replace hz2:=Hd hz2
 replace hk2:=Hd hk2
 have c0:=h2.out.scan.c0
 have c1:=h2.out.scan.c1
 have cc:=(hb2.out.cell (p:=⟨b,o+at_,none⟩) hcb).trans hcel.out
 have hgl2:g<W2.heap.size:=h2.out.scan.blk.lt
 have hbl2:b<W2.heap.size:=Nat.lt_of_lt_of_le hcb hb2.out.size
 go_wp2_with fail
 refine Ad (by kernel_rfl) (by kernel_rfl) ?_
 repeat (go_big_quiet_step ((go_at_call 63;(with_reducible exact A0 (Bc _ _)))))
 refine wpQuiet_nil ?_
 rintro _ ⟨xq,rfl⟩
 have hS:=Ae W2 xq
 obtain ⟨W3,hW3⟩:∃W3,W3=grow W2 xq:=⟨_,rfl⟩
 rw [<-hW3] at hS ⊢
 replace hW3:=Hd hW3
 have h3:=h2.out.grow hS
 have hb3:Below w.heap.size w W3:=hb2.out.trans (hS.mono hb2.out.size)
 have hz3:W3.rangeAt w.heap.size 0 [.int .i64 0,.string ⟨#[]⟩,.int .i64 0,.float .f64 0,.bool false,.slice none 0 0]:=fun q x hq=>by rw [hS.cell (World.block_lt_of_cell? _ _ (hz2.out q x hq))];exact hz2.out q x hq
 have hk3:Blk W3 w.heap.size:=hk2.out.of_block (hS.block _ hk2.out.lt)
 clear c0 c1 hS cc
 replace h3:=Hd h3
 replace hb3:=Hd hb3
 replace hz3:=Hd hz3
 replace hk3:=Hd hk3
 rw [<-hkd]
 have hk0:((kd:Int) == 0)=false:=by simp;omega
 replace hkd:=Hd hkd
 have c1:=h3.out.scan.c1
 have fz:=h3.out.scan.blk.frz 1 none
 go_wp2_with fail
 have e4:(at_:Int)+1=((at_+1:Nat):Int):=by omega
 rw [e4]
 have hf4:Fr (fun k=>k=g) w (W3.setCell ⟨g,1,none⟩ (.int .i64 ((at_+1:Nat):Int))):=Fr.setCell (S:=fun k=>k=g) (Ag hb3.out) (fun _=>rfl) _
 have h4:RS rp w0 (W3.setCell ⟨g,1,none⟩ (.int .i64 ((at_+1:Nat):Int))) g b o n cap s (at_+1) many:=h3.out.next (Fr.setCell (S:=fun k=>k=g) (Fr.refl _ _) (fun _=>rfl) _) (h3.out.scan.move _) (by omega)
 have hz4:(W3.setCell ⟨g,1,none⟩ (.int .i64 ((at_+1:Nat):Int))).rangeAt w.heap.size 0 [.int .i64 0,.string ⟨#[]⟩,.int .i64 0,.float .f64 0,.bool false,.slice none 0 0]:=fun q x hq=>by
   rw [Ab (fun e=>by have:=congrArg Addr.block e;simp at this;omega)];exact hz3.out q x hq
 have hk4:Blk (W3.setCell ⟨g,1,none⟩ (.int .i64 ((at_+1:Nat):Int))) w.heap.size:=hk3.out.setCell _ _
 generalize W3.setCell ⟨g,1,none⟩ (.int .i64 ((at_+1:Nat):Int))=W4 at *
 clear c1 fz e4
 replace h4:=Hd h4
 replace hf4:=Hd hf4
 replace hz4:=Hd hz4
 replace hk4:=Hd hk4
 refine (Cs h4.out.scan h4.out.le (by rw [hL2.out];exact hl.out)).mono ?_
 rintro e W6 ⟨rfl,hf6,hs6,hle6⟩
 have h6:=h4.out.next hf6 hs6 hle6
 have hf06:=hf4.out.trans hf6
 have hne6:¬w.heap.size=g:=by omega
 have hz6:W6.rangeAt w.heap.size 0 [.int .i64 0,.string ⟨#[]⟩,.int .i64 0,.float .f64 0,.bool false,.slice none 0 0]:=fun q x hq=>hf6.cell (hz4.out q x hq) hne6
 have hk6:Blk W6 w.heap.size:=hk4.out.fr hf6 hne6
 clear hf6 hs6 hle6
 replace h6:=Hd h6
 replace hf06:=Hd hf06
 replace hz6:=Hd hz6
 replace hk6:=Hd hk6
 have hno6:=Er (w:=W6) (t:=⟨t.toArray⟩) (most:=4096) hts (by omega) h6.out.nums hm
 have hxl:x.length<=4096:=by
   have:=long_len hlo;omega
 have hlg:∀W,Below W6.heap.size W6 W->Calls Tryz.prog 67 #[.pointer (some ⟨g,0,none⟩),.int .i64 (len:Int)] W fun e w' => e=.returned (.string ⟨x.toArray⟩)/\Fr (fun k=>k=g) W w' /\ Scan w' g b o n cap s (at_+1+u+(len+2)) many/\at_+1+u+(len+2)<=n:=fun W hW=>
   long_got (h6.out.grow hW).scan (h6.out.grow hW).le (by omega) (by rw [<-List.drop_drop,hL2.out];exact hlo)
 have hX:(⟨x.toArray⟩:ByteArray).size<=4096:=by rw [Am];exact hxl
 replace hno6:=Hd hno6
 replace hlg:=Hd hlg
 clear hm hlo hlen hts hxl
 generalize (⟨t.toArray⟩:ByteArray)=T at *
 rw [<-hkd.out] at ok
 generalize (⟨x.toArray⟩:ByteArray)=X at *
 replace ok:=Hd ok
 go_upto_region 8 with fail
 go_cut [51] from 43 to 51 (fun s5 wx=>s5=.bool false/\wx=W6)
 case first=>
   rcases hk with rfl | rfl | rfl
   · by_cases ht:t=[45,49]
     · exact absurd ⟨ht,.inl rfl⟩ hn
     · rw [decide_eq_false ht] at htl
       replace ht:=Hd ht;clear hn;go_wp2_with fail
       go_meet
       exact ⟨rfl,rfl⟩
   all_goals
     clear hn
     rcases Bool.eq_false_or_eq_true (decide (t=[45,49])) with hd | hd
     all_goals
       rw [hd] at htl
       replace hd:=Hd hd
       go_wp2_with fail
       go_meet
       exact ⟨rfl,rfl⟩
 obtain ⟨rfl,hww⟩:=hcut
 obtain rfl:=hww.symm
 clear hww hn htl
 go_upto_if 54 with fail
 go_cut [54] from 54 to 57 (fun s5 wx=>s5=.bool true/\wx=W6)
 case first=>
   rcases hk with rfl | rfl | rfl
   all_goals
     go_wp2_with fail
     go_meet
     exact ⟨rfl,rfl⟩
 obtain ⟨rfl,hww⟩:=hcut
 obtain rfl:=hww.symm
 clear hww
 go_wp2_with fail
 refine hno6.out.mono ?_
 rintro e W7 ⟨rfl,hb⟩
 have h7:=h6.out.grow hb
 have hf7:=hf06.out.trans (Ag (g:=g) hb)
 have hz7:W7.rangeAt w.heap.size 0 [.int .i64 0,.string ⟨#[]⟩,.int .i64 0,.float .f64 0,.bool false,.slice none 0 0]:=fun q x hq=>by rw [(hb).cell (World.block_lt_of_cell? _ _ (hz6.out q x hq))];exact hz6.out q x hq
 have hk7:Blk W7 w.heap.size:=hk6.out.of_block ((hb).block _ hk6.out.lt)
 replace h7:=Hd h7
 replace hf7:=Hd hf7
 replace hz7:=Hd hz7
 replace hk7:=Hd hk7
 go_wp2_with fail
 refine (hlg.out W7 hb).mono ?_
 rintro e W8 ⟨rfl,hf8,hs8,hl8⟩
 have h8:=h7.out.next hf8 hs8 hl8
 have hf08:=hf7.out.trans hf8
 have hne6:¬w.heap.size=g:=by omega
 have hz8:W8.rangeAt w.heap.size 0 [.int .i64 0,.string ⟨#[]⟩,.int .i64 0,.float .f64 0,.bool false,.slice none 0 0]:=fun q x hq=>hf8.cell (hz7.out q x hq) hne6
 have hk8:Blk W8 w.heap.size:=hk7.out.fr hf8 hne6
 obtain ⟨W9,hW9⟩:∃W9,W9=W8.alloc (.cells #[.int .i64 (kd:Int),.string X,.int .i64 0,.float .f64 0,.bool false,.slice none 0 0] 26):=⟨_,rfl⟩
 have hb9:Below W8.heap.size W8 W9:=by rw [hW9];exact (Below.refl _ _).alloc (Nat.le_refl _) _
 have hck:=Ct (kd:Int) X 0 0 false (by rcases hk with h | h | h<;>(rw [h];rfl)) (by omega) W9
 have hv9:W9.rangeAt W8.heap.size 0 [.int .i64 (kd:Int),.string X,.int .i64 0,.float .f64 0,.bool false,.slice none 0 0]:=by
   rw [hW9];intro q x hq;rw [Nat.zero_add,World.cell?_alloc_new];simpa using hq
 clear hf8 hs8 hl8 hb
 replace h8:=Hd h8
 replace hf08:=Hd hf08
 replace hz8:=Hd hz8
 replace hk8:=Hd hk8
 replace hv9:=Hd hv9
 replace hb9:=Hd hb9
 replace hW9:=Hd hW9
 rw [if_neg (by simpa using ok.out)] at hck
 replace hck:=Hd hck
 go_wp2_with fail
 rw [<-hW9.out]
 refine hck.out.mono ?_
 rintro e W10 ⟨rfl,hb10⟩
 have hb:=hb9.out.trans (hb10.mono hb9.out.size)
 have hfA:=hf08.out.trans (Ag (g:=g) hb)
 clear hb hb10
 replace hfA:=Hd hfA
 go_wp2_with fail
 refine (Av _).mono ?_
 rintro e w' ⟨rfl,hww⟩
 obtain rfl:=hww.symm
 exact ⟨rfl,rfl,hfA.out⟩
theorem rv_leaf {c:Addr->Option Value} (v:V) (h:v.list=[]):RV c (At v.kind v.text v.int v.real v.flag none v.list.length 0) v:=by
 cases v with
 | mk k t i r f l=>
   have:l=[]:=h;subst this;exact RV.leaf _ _ _ _ _ _ _ _
theorem shortO_list {o:Option Nat} {k:Nat} {t:ByteArray} {v:V} (h:B6 o k t=some v):v.list=[]:=by
 unfold B6 at h;split at h
 · cases h;rfl
 split at h
 · cases hw:wP t.data.toList with
   | none=>rw [hw] at h;cases h
   | some n=>rw [hw] at h;cases h;rfl
 split at h
 · cases o with
   | none=>cases h
   | some r=>cases h;rfl
 split at h
 · split at h
   · cases h;rfl
   · split at h
     · cases h;rfl
     · cases h
 · split at h
   · cases h;rfl
   · cases h
set_option maxRecDepth 100000 in
set_option maxHeartbeats 6400000 in
theorem value_short {rp:Rp} {w0 w:World} {g b o n cap at_ many u:Nat} {s:ByteArray} {d:Int} {c:UInt8} {t L:List UInt8} {v:V} (h:RS rp w0 w g b o n cap s at_ many) (hL:s.data.toList.drop at_=c :: L)
   (hk:Ac c=1\/Ac c=2\/Ac c=9\/Ac c=3\/Ac c=7\/Ac c=8\/Ac c=6) (hl:A7 L=.got (t,u)) (hK:Ac c=7->rp.K t) (ho:B6 (rp t) (Ac c) ⟨t.toArray⟩=some v) (ok:okV v=true) :
   Calls Tryz.prog 46 #[.pointer (some ⟨g,0,none⟩),.int .i64 d] w (ValQ rp w0 g b o n cap s at_ (.got (v,1+u,many)) w):=by
 have hn:True/\Ac c=Ac c:=⟨trivial,rfl⟩
 have hvl:=shortO_list ho
 replace hvl:=Hd hvl
 replace ok:=Hd ok
 replace hK:=Hd hK
 obtain ⟨kd,hkd⟩:∃kd,kd=Ac c:=⟨_,rfl⟩
 rw [<-hkd] at hk hn
 have hlen:=Df hl
 have hts:(⟨t.toArray⟩:ByteArray).size<=1000000:=by
   rw [Am];show t.length<=_;omega
 have htl:((⟨t.toArray⟩:ByteArray).toList == [45,49])=decide (t=[45,49]):=by
   rw [ByteArray.toList_eq];show (t == [45,49])=_;rw [Bool.eq_iff_iff,beq_iff_eq,decide_eq_true_eq]
 replace hl:=Hd hl
 have hlt:at_<n:=by
   rcases Nat.lt_or_ge at_ n with hh | hh
   · exact hh
   · rw [List.drop_of_length_le (by rw [<-Am,h.scan.size];exact hh)] at hL;cases hL
 have hai:¬(n:Int)<=(at_:Int):=by omega
 have hai2:(at_:Int)<(n:Int):=by omega
 have hbig:=h.scan.big
 obtain ⟨hcel,hL2⟩:w.cell? ⟨b,o+at_,none⟩=some (.int .u8 (c.toNat:Int))/\s.data.toList.drop (at_+1)=L:=by
   have hz:=h.scan.size;have h1:=h.scan.bytes at_ (by omega);have e1:=Lib.data_getElem? s at_ (by omega);have e2:s.data.toList[at_]?=some c:=by
     have:=congrArg (·[0]?) hL
     simp only [List.getElem?_drop,Nat.add_zero] at this;exact this
   rw [e1] at e2;rw [h1,Option.some.inj e2];refine ⟨rfl,?_⟩;rw [<-List.drop_drop,hL];rfl
 have hcb:=World.block_lt_of_cell? _ _ hcel
 replace hcb:b<w.heap.size:=hcb
 replace hL:=Hd hL
 replace hL2:=Hd hL2
 replace hcel:=Hd hcel
 obtain ⟨W1,hW1⟩:∃W1,W1=w.alloc (.cells #[.int .i64 0,.string ⟨#[]⟩,.int .i64 0,.float .f64 0,.bool false,.slice none 0 0] 26):=⟨_,rfl⟩
 have hb1:Below w.heap.size w W1:=by rw [hW1];exact (Below.refl _ _).alloc (Nat.le_refl _) _
 have h1:=h.grow hb1
 have hz1:W1.rangeAt w.heap.size 0 [.int .i64 0,.string ⟨#[]⟩,.int .i64 0,.float .f64 0,.bool false,.slice none 0 0]:=by
   rw [hW1];intro q x hq;rw [Nat.zero_add,World.cell?_alloc_new];simpa using hq
 have hk1:Blk W1 w.heap.size:=by rw [hW1];exact Blk.new _ _ _
 have c0:=h1.scan.c0
 have c1:=h1.scan.c1
 have hgl:g<W1.heap.size:=h1.scan.blk.lt
 have hgw:g<w.heap.size:=h.scan.blk.lt
 replace hW1:=Hd hW1
 replace hb1:=Hd hb1
 replace h1:=Hd h1
 replace hz1:=Hd hz1
 replace hk1:=Hd hk1
 replace h:=Hd h
 go_enter Tryz.func46,Tryz.ntmps46
 go_wp2_with fail
 rw [<-hW1.out]
 refine Ad (by kernel_rfl) (by kernel_rfl) ?_
 repeat (go_big_quiet_step ((fail)))
 refine wpQuiet_nil ?_
 rintro _ ⟨xq,rfl⟩
 have hS:=Ae W1 xq
 obtain ⟨W2,hW2⟩:∃W2,W2=grow W1 xq:=⟨_,rfl⟩
 rw [<-hW2] at hS ⊢
 replace hW2:=Hd hW2
 have h2:=h1.out.grow hS
 have hb2:Below w.heap.size w W2:=hb1.out.trans (hS.mono hb1.out.size)
 have hz2:W2.rangeAt w.heap.size 0 [.int .i64 0,.string ⟨#[]⟩,.int .i64 0,.float .f64 0,.bool false,.slice none 0 0]:=fun q x hq=>by rw [hS.cell (World.block_lt_of_cell? _ _ (hz1.out q x hq))];exact hz1.out q x hq
 have hk2:Blk W2 w.heap.size:=hk1.out.of_block (hS.block _ hk1.out.lt)
 clear c0 c1 hS
 replace h2:=Hd h2
 replace hb2:=Hd hb2
 replace hz2:=Hd hz2
 replace hk2:=Hd hk2
 have c0:=h2.out.scan.c0
 have c1:=h2.out.scan.c1
 have cc:=(hb2.out.cell (p:=⟨b,o+at_,none⟩) hcb).trans hcel.out
 have hgl2:g<W2.heap.size:=h2.out.scan.blk.lt
 have hbl2:b<W2.heap.size:=Nat.lt_of_lt_of_le hcb hb2.out.size
 go_wp2_with fail
 refine Ad (by kernel_rfl) (by kernel_rfl) ?_
 repeat (go_big_quiet_step ((go_at_call 63;(with_reducible exact A0 (Bc _ _)))))
 refine wpQuiet_nil ?_
 rintro _ ⟨xq,rfl⟩
 have hS:=Ae W2 xq
 obtain ⟨W3,hW3⟩:∃W3,W3=grow W2 xq:=⟨_,rfl⟩
 rw [<-hW3] at hS ⊢
 replace hW3:=Hd hW3
 have h3:=h2.out.grow hS
 have hb3:Below w.heap.size w W3:=hb2.out.trans (hS.mono hb2.out.size)
 have hz3:W3.rangeAt w.heap.size 0 [.int .i64 0,.string ⟨#[]⟩,.int .i64 0,.float .f64 0,.bool false,.slice none 0 0]:=fun q x hq=>by rw [hS.cell (World.block_lt_of_cell? _ _ (hz2.out q x hq))];exact hz2.out q x hq
 have hk3:Blk W3 w.heap.size:=hk2.out.of_block (hS.block _ hk2.out.lt)
 clear c0 c1 hS cc
 replace h3:=Hd h3
 replace hb3:=Hd hb3
 replace hz3:=Hd hz3
 replace hk3:=Hd hk3
 rw [<-hkd]
 have hk0:((kd:Int) == 0)=false:=by simp;omega
 replace hkd:=Hd hkd
 have c1:=h3.out.scan.c1
 have fz:=h3.out.scan.blk.frz 1 none
 go_wp2_with fail
 have e4:(at_:Int)+1=((at_+1:Nat):Int):=by omega
 rw [e4]
 have hf4:Fr (fun k=>k=g) w (W3.setCell ⟨g,1,none⟩ (.int .i64 ((at_+1:Nat):Int))):=Fr.setCell (S:=fun k=>k=g) (Ag hb3.out) (fun _=>rfl) _
 have h4:RS rp w0 (W3.setCell ⟨g,1,none⟩ (.int .i64 ((at_+1:Nat):Int))) g b o n cap s (at_+1) many:=h3.out.next (Fr.setCell (S:=fun k=>k=g) (Fr.refl _ _) (fun _=>rfl) _) (h3.out.scan.move _) (by omega)
 have hz4:(W3.setCell ⟨g,1,none⟩ (.int .i64 ((at_+1:Nat):Int))).rangeAt w.heap.size 0 [.int .i64 0,.string ⟨#[]⟩,.int .i64 0,.float .f64 0,.bool false,.slice none 0 0]:=fun q x hq=>by
   rw [Ab (fun e=>by have:=congrArg Addr.block e;simp at this;omega)];exact hz3.out q x hq
 have hk4:Blk (W3.setCell ⟨g,1,none⟩ (.int .i64 ((at_+1:Nat):Int))) w.heap.size:=hk3.out.setCell _ _
 generalize W3.setCell ⟨g,1,none⟩ (.int .i64 ((at_+1:Nat):Int))=W4 at *
 clear c1 fz e4
 replace h4:=Hd h4
 replace hf4:=Hd hf4
 replace hz4:=Hd hz4
 replace hk4:=Hd hk4
 refine (Cs h4.out.scan h4.out.le (by rw [hL2.out];exact hl.out)).mono ?_
 rintro e W6 ⟨rfl,hf6,hs6,hle6⟩
 have h6:=h4.out.next hf6 hs6 hle6
 have hf06:=hf4.out.trans hf6
 have hne6:¬w.heap.size=g:=by omega
 have hz6:W6.rangeAt w.heap.size 0 [.int .i64 0,.string ⟨#[]⟩,.int .i64 0,.float .f64 0,.bool false,.slice none 0 0]:=fun q x hq=>hf6.cell (hz4.out q x hq) hne6
 have hk6:Blk W6 w.heap.size:=hk4.out.fr hf6 hne6
 clear hf6 hs6 hle6
 replace h6:=Hd h6
 replace hf06:=Hd hf06
 replace hz6:=Hd hz6
 replace hk6:=Hd hk6
 have hsh:=short_any (w:=W6) (k:=kd) (t:=⟨t.toArray⟩) (o:=rp t) hk hts h6.out.nums (fun hk7 W hW=>h6.out.env.real W (h6.out.grow hW).below t (hK.out (by rw [<-hkd.out];exact hk7)))
 rw [hkd.out,ho] at hsh
 unfold Cb at hsh
 dsimp only at hsh
 rw [<-hkd.out] at hsh
 replace hsh:=Hd hsh
 clear ho hlen hts
 generalize (⟨t.toArray⟩:ByteArray)=T at *
 have hd45:(decide (t=[45,49]))=true\/(decide (t=[45,49]))=false:=by cases decide (t=[45,49])<;>simp
 generalize decide (t=[45,49])=D at *
 replace hn:=Hd hn
 rcases hd45 with rfl | rfl
 all_goals rcases hk with rfl | rfl | rfl | rfl | rfl | rfl | rfl
 all_goals
   clear hn
   go_wp2_with fail
   refine hsh.out.mono ?_
   rintro e W7 ⟨he,hb⟩
   rw [if_pos ok.out] at he
   subst he
   have h7:=h6.out.grow hb
   have hf7:=hf06.out.trans (Ag (g:=g) hb)
   have hz7:W7.rangeAt w.heap.size 0 [.int .i64 0,.string ⟨#[]⟩,.int .i64 0,.float .f64 0,.bool false,.slice none 0 0]:=fun q x hq=>by rw [(hb).cell (World.block_lt_of_cell? _ _ (hz6.out q x hq))];exact hz6.out q x hq
   have hk7:Blk W7 w.heap.size:=hk6.out.of_block ((hb).block _ hk6.out.lt)
   replace h7:=Hd h7
   replace hf7:=Hd hf7
   replace hz7:=Hd hz7
   replace hk7:=Hd hk7
   clear hb
   have htC:=Ao (n:=6) hz7.out hk7.out rfl
   have hrR:(W7.setCells w.heap.size 0 [.int .i64 v.kind,.string v.text,.int .i64 v.int,.float .f64 v.real,.bool v.flag,.slice none 0 0]).rangeAt w.heap.size 0 [.int .i64 v.kind,.string v.text,.int .i64 v.int,.float .f64 v.real,.bool v.flag,.slice none 0 0]:=World.rangeAt_setCells_same _ _ _ _ htC
   have hfw:Fr (fun k=>k=w.heap.size) W7 (W7.setCells w.heap.size 0 [.int .i64 v.kind,.string v.text,.int .i64 v.int,.float .f64 v.real,.bool v.flag,.slice none 0 0]):=Fr.setCells (S:=fun k=>k=w.heap.size) (fun _=>rfl) _ _ _ (Fr.refl _ _)
   have hff:=hf7.out.trans_new hfw (fun i hi e=>by omega)
   have hrs:RS rp w0 (W7.setCells w.heap.size 0 [.int .i64 v.kind,.string v.text,.int .i64 v.int,.float .f64 v.real,.bool v.flag,.slice none 0 0]) g b o n cap s _ many:=⟨h7.out.scan.fr hfw (by omega) (by omega),h7.out.env,h7.out.below.trans (hfw.below h7.out.below.size (fun i hi e=>by have:=h7.out.below.size;have:=h7.out.base;omega)),h7.out.base,h7.out.le⟩
   replace htC:=Hd htC
   replace hrR:=Hd hrR
   replace hff:=Hd hff
   replace hrs:=Hd hrs
   clear hfw
   go_wp2_with (refine wpList_store_mid rfl 26 _ _ rfl w.heap.size 0 _ rfl rfl htC.out Ai (one6 _ _ _ _ _ _ _ _) ?_)
   refine bodyPost_ret (Ap (v:=.agg #[.int .i64 v.kind,.string v.text,.int .i64 v.int,.float .f64 v.real,.bool v.flag,.slice none 0 0]) rfl rfl (run_loadVar_mid (P:=Tryz.prog) _ _ 0 26 _ _ hrR.out Tryz.underlying26 rfl Ai)) rfl ?_
   exact ⟨none,0,by rw [hvl.out];rfl,rv_leaf _ hvl.out,hff.out,by rw [show at_+(1+u)=at_+1+u by omega];exact hrs.out⟩
set_option maxRecDepth 100000 in
set_option maxHeartbeats 6400000 in
theorem value_sbad {rp:Rp} {w0 w:World} {g b o n cap at_ many u:Nat} {s:ByteArray} {d:Int} {c:UInt8} {t L:List UInt8} {v:V} (h:RS rp w0 w g b o n cap s at_ many) (hL:s.data.toList.drop at_=c :: L)
   (hk:Ac c=1\/Ac c=2\/Ac c=9\/Ac c=3\/Ac c=7\/Ac c=8\/Ac c=6) (hl:A7 L=.got (t,u)) (hK:Ac c=7->rp.K t) (ho:B6 (rp t) (Ac c) ⟨t.toArray⟩=some v) (ok:¬okV v=true) :
   Calls Tryz.prog 46 #[.pointer (some ⟨g,0,none⟩),.int .i64 d] w fun e w' => e=B8 51/\Fr (fun k=>k=g) w w' := by
 have hn:True/\Ac c=Ac c:=⟨trivial,rfl⟩
 replace ok:=Hd ok
 replace hK:=Hd hK
 obtain ⟨kd,hkd⟩:∃kd,kd=Ac c:=⟨_,rfl⟩
 rw [<-hkd] at hk hn
 have hlen:=Df hl
 have hts:(⟨t.toArray⟩:ByteArray).size<=1000000:=by
   rw [Am];show t.length<=_;omega
 have htl:((⟨t.toArray⟩:ByteArray).toList == [45,49])=decide (t=[45,49]):=by
   rw [ByteArray.toList_eq];show (t == [45,49])=_;rw [Bool.eq_iff_iff,beq_iff_eq,decide_eq_true_eq]
 replace hl:=Hd hl
 have hlt:at_<n:=by
   rcases Nat.lt_or_ge at_ n with hh | hh
   · exact hh
   · rw [List.drop_of_length_le (by rw [<-Am,h.scan.size];exact hh)] at hL;cases hL
 have hai:¬(n:Int)<=(at_:Int):=by omega
 have hai2:(at_:Int)<(n:Int):=by omega
 have hbig:=h.scan.big
 obtain ⟨hcel,hL2⟩:w.cell? ⟨b,o+at_,none⟩=some (.int .u8 (c.toNat:Int))/\s.data.toList.drop (at_+1)=L:=by
   have hz:=h.scan.size;have h1:=h.scan.bytes at_ (by omega);have e1:=Lib.data_getElem? s at_ (by omega);have e2:s.data.toList[at_]?=some c:=by
     have:=congrArg (·[0]?) hL
     simp only [List.getElem?_drop,Nat.add_zero] at this;exact this
   rw [e1] at e2;rw [h1,Option.some.inj e2];refine ⟨rfl,?_⟩;rw [<-List.drop_drop,hL];rfl
 have hcb:=World.block_lt_of_cell? _ _ hcel
 replace hcb:b<w.heap.size:=hcb
 replace hL:=Hd hL
 replace hL2:=Hd hL2
 replace hcel:=Hd hcel
 obtain ⟨W1,hW1⟩:∃W1,W1=w.alloc (.cells #[.int .i64 0,.string ⟨#[]⟩,.int .i64 0,.float .f64 0,.bool false,.slice none 0 0] 26):=⟨_,rfl⟩
 have hb1:Below w.heap.size w W1:=by rw [hW1];exact (Below.refl _ _).alloc (Nat.le_refl _) _
 have h1:=h.grow hb1
 have hz1:W1.rangeAt w.heap.size 0 [.int .i64 0,.string ⟨#[]⟩,.int .i64 0,.float .f64 0,.bool false,.slice none 0 0]:=by
   rw [hW1];intro q x hq;rw [Nat.zero_add,World.cell?_alloc_new];simpa using hq
 have hk1:Blk W1 w.heap.size:=by rw [hW1];exact Blk.new _ _ _
 have c0:=h1.scan.c0
 have c1:=h1.scan.c1
 have hgl:g<W1.heap.size:=h1.scan.blk.lt
 have hgw:g<w.heap.size:=h.scan.blk.lt
 replace hW1:=Hd hW1
 replace hb1:=Hd hb1
 replace h1:=Hd h1
 replace hz1:=Hd hz1
 replace hk1:=Hd hk1
 replace h:=Hd h
 go_enter Tryz.func46,Tryz.ntmps46
 go_wp2_with fail
 rw [<-hW1.out]
 refine Ad (by kernel_rfl) (by kernel_rfl) ?_
 repeat (go_big_quiet_step ((fail)))
 refine wpQuiet_nil ?_
 rintro _ ⟨xq,rfl⟩
 have hS:=Ae W1 xq
 obtain ⟨W2,hW2⟩:∃W2,W2=grow W1 xq:=⟨_,rfl⟩
 rw [<-hW2] at hS ⊢
 replace hW2:=Hd hW2
 have h2:=h1.out.grow hS
 have hb2:Below w.heap.size w W2:=hb1.out.trans (hS.mono hb1.out.size)
 have hz2:W2.rangeAt w.heap.size 0 [.int .i64 0,.string ⟨#[]⟩,.int .i64 0,.float .f64 0,.bool false,.slice none 0 0]:=fun q x hq=>by rw [hS.cell (World.block_lt_of_cell? _ _ (hz1.out q x hq))];exact hz1.out q x hq
 have hk2:Blk W2 w.heap.size:=hk1.out.of_block (hS.block _ hk1.out.lt)
 clear c0 c1 hS
 replace h2:=Hd h2
 replace hb2:=Hd hb2
 replace hz2:=Hd hz2
 replace hk2:=Hd hk2
 have c0:=h2.out.scan.c0
 have c1:=h2.out.scan.c1
 have cc:=(hb2.out.cell (p:=⟨b,o+at_,none⟩) hcb).trans hcel.out
 have hgl2:g<W2.heap.size:=h2.out.scan.blk.lt
 have hbl2:b<W2.heap.size:=Nat.lt_of_lt_of_le hcb hb2.out.size
 go_wp2_with fail
 refine Ad (by kernel_rfl) (by kernel_rfl) ?_
 repeat (go_big_quiet_step ((go_at_call 63;(with_reducible exact A0 (Bc _ _)))))
 refine wpQuiet_nil ?_
 rintro _ ⟨xq,rfl⟩
 have hS:=Ae W2 xq
 obtain ⟨W3,hW3⟩:∃W3,W3=grow W2 xq:=⟨_,rfl⟩
 rw [<-hW3] at hS ⊢
 replace hW3:=Hd hW3
 have h3:=h2.out.grow hS
 have hb3:Below w.heap.size w W3:=hb2.out.trans (hS.mono hb2.out.size)
 have hz3:W3.rangeAt w.heap.size 0 [.int .i64 0,.string ⟨#[]⟩,.int .i64 0,.float .f64 0,.bool false,.slice none 0 0]:=fun q x hq=>by rw [hS.cell (World.block_lt_of_cell? _ _ (hz2.out q x hq))];exact hz2.out q x hq
 have hk3:Blk W3 w.heap.size:=hk2.out.of_block (hS.block _ hk2.out.lt)
 clear c0 c1 hS cc
 replace h3:=Hd h3
 replace hb3:=Hd hb3
 replace hz3:=Hd hz3
 replace hk3:=Hd hk3
 rw [<-hkd]
 have hk0:((kd:Int) == 0)=false:=by simp;omega
 replace hkd:=Hd hkd
 have c1:=h3.out.scan.c1
 have fz:=h3.out.scan.blk.frz 1 none
 go_wp2_with fail
 have e4:(at_:Int)+1=((at_+1:Nat):Int):=by omega
 rw [e4]
 have hf4:Fr (fun k=>k=g) w (W3.setCell ⟨g,1,none⟩ (.int .i64 ((at_+1:Nat):Int))):=Fr.setCell (S:=fun k=>k=g) (Ag hb3.out) (fun _=>rfl) _
 have h4:RS rp w0 (W3.setCell ⟨g,1,none⟩ (.int .i64 ((at_+1:Nat):Int))) g b o n cap s (at_+1) many:=h3.out.next (Fr.setCell (S:=fun k=>k=g) (Fr.refl _ _) (fun _=>rfl) _) (h3.out.scan.move _) (by omega)
 have hz4:(W3.setCell ⟨g,1,none⟩ (.int .i64 ((at_+1:Nat):Int))).rangeAt w.heap.size 0 [.int .i64 0,.string ⟨#[]⟩,.int .i64 0,.float .f64 0,.bool false,.slice none 0 0]:=fun q x hq=>by
   rw [Ab (fun e=>by have:=congrArg Addr.block e;simp at this;omega)];exact hz3.out q x hq
 have hk4:Blk (W3.setCell ⟨g,1,none⟩ (.int .i64 ((at_+1:Nat):Int))) w.heap.size:=hk3.out.setCell _ _
 generalize W3.setCell ⟨g,1,none⟩ (.int .i64 ((at_+1:Nat):Int))=W4 at *
 clear c1 fz e4
 replace h4:=Hd h4
 replace hf4:=Hd hf4
 replace hz4:=Hd hz4
 replace hk4:=Hd hk4
 refine (Cs h4.out.scan h4.out.le (by rw [hL2.out];exact hl.out)).mono ?_
 rintro e W6 ⟨rfl,hf6,hs6,hle6⟩
 have h6:=h4.out.next hf6 hs6 hle6
 have hf06:=hf4.out.trans hf6
 have hne6:¬w.heap.size=g:=by omega
 have hz6:W6.rangeAt w.heap.size 0 [.int .i64 0,.string ⟨#[]⟩,.int .i64 0,.float .f64 0,.bool false,.slice none 0 0]:=fun q x hq=>hf6.cell (hz4.out q x hq) hne6
 have hk6:Blk W6 w.heap.size:=hk4.out.fr hf6 hne6
 clear hf6 hs6 hle6
 replace h6:=Hd h6
 replace hf06:=Hd hf06
 replace hz6:=Hd hz6
 replace hk6:=Hd hk6
 have hsh:=short_any (w:=W6) (k:=kd) (t:=⟨t.toArray⟩) (o:=rp t) hk hts h6.out.nums (fun hk7 W hW=>h6.out.env.real W (h6.out.grow hW).below t (hK.out (by rw [<-hkd.out];exact hk7)))
 rw [hkd.out,ho] at hsh
 unfold Cb at hsh
 dsimp only at hsh
 rw [<-hkd.out] at hsh
 replace hsh:=Hd hsh
 clear ho hlen hts
 generalize (⟨t.toArray⟩:ByteArray)=T at *
 have hd45:(decide (t=[45,49]))=true\/(decide (t=[45,49]))=false:=by cases decide (t=[45,49])<;>simp
 generalize decide (t=[45,49])=D at *
 replace hn:=Hd hn
 rcases hd45 with rfl | rfl
 all_goals rcases hk with rfl | rfl | rfl | rfl | rfl | rfl | rfl
 all_goals
   clear hn
   go_wp2_with fail
   refine hsh.out.mono ?_
   rintro e W7 ⟨he,hb⟩
   rw [if_neg ok.out] at he
   subst he
   exact ⟨rfl,rfl,hf06.out.trans (Ag (g:=g) hb)⟩
set_option maxRecDepth 100000 in
set_option maxHeartbeats 6400000 in
theorem value_snone {rp:Rp} {w0 w:World} {g b o n cap at_ many u:Nat} {s:ByteArray} {d:Int} {c:UInt8} {t L:List UInt8} (h:RS rp w0 w g b o n cap s at_ many) (hL:s.data.toList.drop at_=c :: L)
   (hk:Ac c=1\/Ac c=2\/Ac c=9\/Ac c=3\/Ac c=7\/Ac c=8\/Ac c=6) (hl:A7 L=.got (t,u)) (hK:Ac c=7->rp.K t) (ho:B6 (rp t) (Ac c) ⟨t.toArray⟩=none) :
   Calls Tryz.prog 46 #[.pointer (some ⟨g,0,none⟩),.int .i64 d] w fun e w' => e=B8 51/\Fr (fun k=>k=g) w w' := by
 have hn:True/\Ac c=Ac c:=⟨trivial,rfl⟩
 replace hK:=Hd hK
 obtain ⟨kd,hkd⟩:∃kd,kd=Ac c:=⟨_,rfl⟩
 rw [<-hkd] at hk hn
 have hlen:=Df hl
 have hts:(⟨t.toArray⟩:ByteArray).size<=1000000:=by
   rw [Am];show t.length<=_;omega
 have htl:((⟨t.toArray⟩:ByteArray).toList == [45,49])=decide (t=[45,49]):=by
   rw [ByteArray.toList_eq];show (t == [45,49])=_;rw [Bool.eq_iff_iff,beq_iff_eq,decide_eq_true_eq]
 replace hl:=Hd hl
 have hlt:at_<n:=by
   rcases Nat.lt_or_ge at_ n with hh | hh
   · exact hh
   · rw [List.drop_of_length_le (by rw [<-Am,h.scan.size];exact hh)] at hL;cases hL
 have hai:¬(n:Int)<=(at_:Int):=by omega
 have hai2:(at_:Int)<(n:Int):=by omega
 have hbig:=h.scan.big
 obtain ⟨hcel,hL2⟩:w.cell? ⟨b,o+at_,none⟩=some (.int .u8 (c.toNat:Int))/\s.data.toList.drop (at_+1)=L:=by
   have hz:=h.scan.size;have h1:=h.scan.bytes at_ (by omega);have e1:=Lib.data_getElem? s at_ (by omega);have e2:s.data.toList[at_]?=some c:=by
     have:=congrArg (·[0]?) hL
     simp only [List.getElem?_drop,Nat.add_zero] at this;exact this
   rw [e1] at e2;rw [h1,Option.some.inj e2];refine ⟨rfl,?_⟩;rw [<-List.drop_drop,hL];rfl
 have hcb:=World.block_lt_of_cell? _ _ hcel
 replace hcb:b<w.heap.size:=hcb
 replace hL:=Hd hL
 replace hL2:=Hd hL2
 replace hcel:=Hd hcel
 obtain ⟨W1,hW1⟩:∃W1,W1=w.alloc (.cells #[.int .i64 0,.string ⟨#[]⟩,.int .i64 0,.float .f64 0,.bool false,.slice none 0 0] 26):=⟨_,rfl⟩
 have hb1:Below w.heap.size w W1:=by rw [hW1];exact (Below.refl _ _).alloc (Nat.le_refl _) _
 have h1:=h.grow hb1
 have hz1:W1.rangeAt w.heap.size 0 [.int .i64 0,.string ⟨#[]⟩,.int .i64 0,.float .f64 0,.bool false,.slice none 0 0]:=by
   rw [hW1];intro q x hq;rw [Nat.zero_add,World.cell?_alloc_new];simpa using hq
 have hk1:Blk W1 w.heap.size:=by rw [hW1];exact Blk.new _ _ _
 have c0:=h1.scan.c0
 have c1:=h1.scan.c1
 have hgl:g<W1.heap.size:=h1.scan.blk.lt
 have hgw:g<w.heap.size:=h.scan.blk.lt
 replace hW1:=Hd hW1
 replace hb1:=Hd hb1
 replace h1:=Hd h1
 replace hz1:=Hd hz1
 replace hk1:=Hd hk1
 replace h:=Hd h
 go_enter Tryz.func46,Tryz.ntmps46
 go_wp2_with fail
 rw [<-hW1.out]
 refine Ad (by kernel_rfl) (by kernel_rfl) ?_
 repeat (go_big_quiet_step ((fail)))
 refine wpQuiet_nil ?_
 rintro _ ⟨xq,rfl⟩
 have hS:=Ae W1 xq
 obtain ⟨W2,hW2⟩:∃W2,W2=grow W1 xq:=⟨_,rfl⟩
 rw [<-hW2] at hS ⊢
 replace hW2:=Hd hW2
 have h2:=h1.out.grow hS
 have hb2:Below w.heap.size w W2:=hb1.out.trans (hS.mono hb1.out.size)
 have hz2:W2.rangeAt w.heap.size 0 [.int .i64 0,.string ⟨#[]⟩,.int .i64 0,.float .f64 0,.bool false,.slice none 0 0]:=fun q x hq=>by rw [hS.cell (World.block_lt_of_cell? _ _ (hz1.out q x hq))];exact hz1.out q x hq
 have hk2:Blk W2 w.heap.size:=hk1.out.of_block (hS.block _ hk1.out.lt)
 clear c0 c1 hS
 replace h2:=Hd h2
 replace hb2:=Hd hb2
 replace hz2:=Hd hz2
 replace hk2:=Hd hk2
 have c0:=h2.out.scan.c0
 have c1:=h2.out.scan.c1
 have cc:=(hb2.out.cell (p:=⟨b,o+at_,none⟩) hcb).trans hcel.out
 have hgl2:g<W2.heap.size:=h2.out.scan.blk.lt
 have hbl2:b<W2.heap.size:=Nat.lt_of_lt_of_le hcb hb2.out.size
 go_wp2_with fail
 refine Ad (by kernel_rfl) (by kernel_rfl) ?_
 repeat (go_big_quiet_step ((go_at_call 63;(with_reducible exact A0 (Bc _ _)))))
 refine wpQuiet_nil ?_
 rintro _ ⟨xq,rfl⟩
 have hS:=Ae W2 xq
 obtain ⟨W3,hW3⟩:∃W3,W3=grow W2 xq:=⟨_,rfl⟩
 rw [<-hW3] at hS ⊢
 replace hW3:=Hd hW3
 have h3:=h2.out.grow hS
 have hb3:Below w.heap.size w W3:=hb2.out.trans (hS.mono hb2.out.size)
 have hz3:W3.rangeAt w.heap.size 0 [.int .i64 0,.string ⟨#[]⟩,.int .i64 0,.float .f64 0,.bool false,.slice none 0 0]:=fun q x hq=>by rw [hS.cell (World.block_lt_of_cell? _ _ (hz2.out q x hq))];exact hz2.out q x hq
 have hk3:Blk W3 w.heap.size:=hk2.out.of_block (hS.block _ hk2.out.lt)
 clear c0 c1 hS cc
 replace h3:=Hd h3
 replace hb3:=Hd hb3
 replace hz3:=Hd hz3
 replace hk3:=Hd hk3
 rw [<-hkd]
 have hk0:((kd:Int) == 0)=false:=by simp;omega
 replace hkd:=Hd hkd
 have c1:=h3.out.scan.c1
 have fz:=h3.out.scan.blk.frz 1 none
 go_wp2_with fail
 have e4:(at_:Int)+1=((at_+1:Nat):Int):=by omega
 rw [e4]
 have hf4:Fr (fun k=>k=g) w (W3.setCell ⟨g,1,none⟩ (.int .i64 ((at_+1:Nat):Int))):=Fr.setCell (S:=fun k=>k=g) (Ag hb3.out) (fun _=>rfl) _
 have h4:RS rp w0 (W3.setCell ⟨g,1,none⟩ (.int .i64 ((at_+1:Nat):Int))) g b o n cap s (at_+1) many:=h3.out.next (Fr.setCell (S:=fun k=>k=g) (Fr.refl _ _) (fun _=>rfl) _) (h3.out.scan.move _) (by omega)
 have hz4:(W3.setCell ⟨g,1,none⟩ (.int .i64 ((at_+1:Nat):Int))).rangeAt w.heap.size 0 [.int .i64 0,.string ⟨#[]⟩,.int .i64 0,.float .f64 0,.bool false,.slice none 0 0]:=fun q x hq=>by
   rw [Ab (fun e=>by have:=congrArg Addr.block e;simp at this;omega)];exact hz3.out q x hq
 have hk4:Blk (W3.setCell ⟨g,1,none⟩ (.int .i64 ((at_+1:Nat):Int))) w.heap.size:=hk3.out.setCell _ _
 generalize W3.setCell ⟨g,1,none⟩ (.int .i64 ((at_+1:Nat):Int))=W4 at *
 clear c1 fz e4
 replace h4:=Hd h4
 replace hf4:=Hd hf4
 replace hz4:=Hd hz4
 replace hk4:=Hd hk4
 refine (Cs h4.out.scan h4.out.le (by rw [hL2.out];exact hl.out)).mono ?_
 rintro e W6 ⟨rfl,hf6,hs6,hle6⟩
 have h6:=h4.out.next hf6 hs6 hle6
 have hf06:=hf4.out.trans hf6
 have hne6:¬w.heap.size=g:=by omega
 have hz6:W6.rangeAt w.heap.size 0 [.int .i64 0,.string ⟨#[]⟩,.int .i64 0,.float .f64 0,.bool false,.slice none 0 0]:=fun q x hq=>hf6.cell (hz4.out q x hq) hne6
 have hk6:Blk W6 w.heap.size:=hk4.out.fr hf6 hne6
 clear hf6 hs6 hle6
 replace h6:=Hd h6
 replace hf06:=Hd hf06
 replace hz6:=Hd hz6
 replace hk6:=Hd hk6
 have hsh:=short_any (w:=W6) (k:=kd) (t:=⟨t.toArray⟩) (o:=rp t) hk hts h6.out.nums (fun hk7 W hW=>h6.out.env.real W (h6.out.grow hW).below t (hK.out (by rw [<-hkd.out];exact hk7)))
 rw [hkd.out,ho] at hsh
 unfold Cb at hsh
 dsimp only at hsh
 rw [<-hkd.out] at hsh
 replace hsh:=Hd hsh
 clear ho hlen hts
 generalize (⟨t.toArray⟩:ByteArray)=T at *
 have hd45:(decide (t=[45,49]))=true\/(decide (t=[45,49]))=false:=by cases decide (t=[45,49])<;>simp
 generalize decide (t=[45,49])=D at *
 replace hn:=Hd hn
 rcases hd45 with rfl | rfl
 all_goals rcases hk with rfl | rfl | rfl | rfl | rfl | rfl | rfl
 all_goals
   clear hn
   go_wp2_with fail
   refine hsh.out.mono ?_
   rintro e W7 ⟨he,hb⟩
   subst he
   exact ⟨rfl,rfl,hf06.out.trans (Ag (g:=g) hb)⟩
set_option maxRecDepth 100000 in
set_option maxHeartbeats 3200000 in
theorem list_no {rp:Rp} {w0 w:World} {g b o n cap at_ many len:Nat} {s:ByteArray} {d kk:Int} (h:RS rp w0 w g b o n cap s at_ many) (hm:many<=1000000) (hl:len<=100000) (hbad:1000<many+len\/8<=d\/(kk=14/\(len=0\/0<d))) :
   Calls Tryz.prog 70 #[.pointer (some ⟨g,0,none⟩),.int .i64 kk,.int .i64 (len:Int),.int .i64 d] w fun e w' => e=B8 51/\Fr (fun k=>k=g) w w' := by
 have hkk:kk=kk:=rfl
 obtain ⟨W1,hW1⟩:∃W1,W1=(w.alloc (.cells #[.int .i64 0,.string ⟨#[]⟩,.int .i64 0,.float .f64 0,.bool false,.slice none 0 0] 26)).alloc (.cells #[.int .i64 kk,.string ⟨#[]⟩,.int .i64 0,.float .f64 0,.bool false,.slice none 0 0] 26):=⟨_,rfl⟩
 have hT:=Two.start w kk ⟨#[]⟩ 0 0 false
 rw [<-hW1] at hT
 have h1:=h.grow hT.below
 have c2:=h1.scan.c2
 have fz:=h1.scan.blk.frz 2 none
 have e2:(many:Int)+(len:Int)=((many+len:Nat):Int):=by omega
 have hf:Fr (fun k=>k=g) w (W1.setCell ⟨g,2,none⟩ (.int .i64 ((many+len:Nat):Int))):=Fr.setCell (S:=fun k=>k=g) (Ag hT.below) (fun _=>rfl) _
 replace hf:=Hd hf
 replace hW1:=Hd hW1
 replace hT:=Hd hT
 replace h1:=Hd h1
 replace h:=Hd h
 replace hbad:=Hd hbad
 by_cases q1:1000<many+len
 · have y1:(1000:Int)<(many:Int)+(len:Int):=by omega
   clear e2
   go_enter Tryz.func70,Tryz.ntmps70
   go_upto_region 2 with fail
   rw [<-hW1.out];go_wp2_with fail
   refine (Av _).mono ?_;rintro e w' ⟨rfl,hww⟩;obtain rfl:=hww.symm;refine ⟨rfl,rfl,?_⟩;have:=hf.out;simpa using this
 · have y1:¬(1000:Int)<(many:Int)+(len:Int):=by omega
   by_cases q2:8<=d
   · clear e2
     go_enter Tryz.func70,Tryz.ntmps70
     go_upto_region 2 with fail
     rw [<-hW1.out];go_wp2_with fail
     refine (Av _).mono ?_;rintro e w' ⟨rfl,hww⟩;obtain rfl:=hww.symm;refine ⟨rfl,rfl,?_⟩;have:=hf.out;simpa using this
   · have q3:kk=14/\(len=0\/0<d):=by have:=hbad.out;omega
     obtain ⟨rfl,q4⟩:=q3;by_cases q5:len=0
     · subst q5
       clear e2
       go_enter Tryz.func70,Tryz.ntmps70
       go_upto_region 2 with fail
       rw [<-hW1.out];go_wp2_with fail
       refine (Av _).mono ?_;rintro e w' ⟨rfl,hww⟩;obtain rfl:=hww.symm;refine ⟨rfl,rfl,?_⟩;have:=hf.out;simpa using this
     · have y5:((len:Int) == 0)=false:=by simp;omega
       have y6:0<d:=by omega
       clear e2
       go_enter Tryz.func70,Tryz.ntmps70
       go_upto_region 2 with fail
       rw [<-hW1.out];go_wp2_with fail
       refine (Av _).mono ?_;rintro e w' ⟨rfl,hww⟩;obtain rfl:=hww.symm;refine ⟨rfl,rfl,?_⟩;have:=hf.out;simpa using this
structure LS (rp:Rp) (w0 w wr:World) (g b o n cap:Nat) (s:ByteArray) (kk:Int) (at_ uj mj:Nat) (lv:Value) (css:List (List Value)) (lj:List V):Prop where
 rs:RS rp w0 wr g b o n cap s (at_+uj) mj
 many:mj<=1000
 own:wr.ownsRow (w.heap.size+2) 26 6 lv lj.length css.flatten
 vals:RVs (nf (w.heap.size+2) lv.ownBlock wr) css lj
 full:wr.rangeAt (w.heap.size+1) 0 [.int .i64 kk,.string ⟨#[]⟩,.int .i64 0,.float .f64 0,.bool false,lv]
 zero:wr.rangeAt w.heap.size 0 [.int .i64 0,.string ⟨#[]⟩,.int .i64 0,.float .f64 0,.bool false,.slice none 0 0]
 blk:Blk wr w.heap.size
 blk1:Blk wr (w.heap.size+1)
 fr:Fr (fun k=>k=g) w wr
 size:w.heap.size+2<=wr.heap.size
def Links (need:Nat->List UInt8->Prop) (f:Nat->List UInt8->Out (V × Nat × Nat)) (res:Out (List V × Nat × Nat)) (D:List UInt8) (at_ left uj mj:Nat) (lj:List V):Prop:=
 (match Be f left mj (D.drop (at_+uj)) with
 | .stop q=>res=.stop q
 | .got (l,u,m)=>res=.got (lj++l,uj+u,m))/\needN need f left mj (D.drop (at_+uj))
theorem Links.need {need:Nat->List UInt8->Prop} {f:Nat->List UInt8->Out (V × Nat × Nat)} {res:Out (List V × Nat × Nat)} {D:List UInt8} {at_ left uj mj:Nat} {lj:List V} (h:Links need f res D at_ (left+1) uj mj lj):need mj (D.drop (at_+uj)):=h.2.1
theorem Links.stop {need:Nat->List UInt8->Prop} {f:Nat->List UInt8->Out (V × Nat × Nat)} {res:Out (List V × Nat × Nat)} {D:List UInt8} {at_ left uj mj q:Nat} {lj:List V} (h:Links need f res D at_ (left+1) uj mj lj) (hf:f mj (D.drop (at_+uj))=.stop q):res=.stop q:=by
 replace h:=h.1;rw [Be,hf] at h;exact h
theorem Links.next {need:Nat->List UInt8->Prop} {f:Nat->List UInt8->Out (V × Nat × Nat)} {res:Out (List V × Nat × Nat)} {D:List UInt8} {at_ left uj mj u m:Nat} {lj:List V} {v:V} (h:Links need f res D at_ (left+1) uj mj lj) (hf:f mj (D.drop (at_+uj))=.got (v,u,m)) :
   Links need f res D at_ left (uj+u) m (lj++[v]):=by
 have hnd:=h.2.2 v u m hf
 rw [List.drop_drop] at hnd
 replace h:=h.1
 unfold Links
 refine ⟨?_,by rw [show at_+(uj+u)=at_+uj+u by omega];exact hnd⟩
 rw [Be,hf] at h
 dsimp only at h
 rw [List.drop_drop] at h
 rw [show at_+(uj+u)=at_+uj+u by omega]
 cases hs:Be f left m (D.drop (at_+uj+u)) with
 | stop q=>rw [hs] at h;exact h
 | got x=>
   obtain ⟨l,u2,m2⟩:=x;rw [hs] at h;dsimp only at h ⊢;rw [h];simp only [List.append_assoc,List.singleton_append,Nat.add_assoc]
theorem Links.last {need:Nat->List UInt8->Prop} {f:Nat->List UInt8->Out (V × Nat × Nat)} {res:Out (List V × Nat × Nat)} {D:List UInt8} {at_ uj mj:Nat} {lj:List V} (h:Links need f res D at_ 0 uj mj lj):res=.got (lj,uj,mj):=by
 replace h:=h.1;rw [Be] at h;simpa using h
theorem Links.start {need:Nat->List UInt8->Prop} {f:Nat->List UInt8->Out (V × Nat × Nat)} {D:List UInt8} {at_ n m:Nat} (hnd:needN need f n m (D.drop at_)):Links need f (Be f n m (D.drop at_)) D at_ n 0 m []:=by
 unfold Links;rw [Nat.add_zero];refine ⟨?_,hnd⟩;cases Be f n m (D.drop at_) with
 | stop q=>rfl
 | got x=>obtain ⟨l,u,m2⟩:=x;simp
end Go.Proofs.YtagkgfniihiinaaGreatDoor
