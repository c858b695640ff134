/- The document's reader: a value that is a line. -/
import Derived.Test.YtagkgfniihiinaaGreatDoorJ81
import Derived.Test.YtagkgfniihiinaaGreatDoorAll03
import Derived.Test.YtagkgfniihiinaaGreatDoorJ54
set_option linter.all false
namespace Go.Proofs.YtagkgfniihiinaaGreatDoor
open Go.RowKit
theorem Ci (k:Int) (t:ByteArray) (i:Int) (r:Nat) (f:Bool) (hk:Ak k=false) (ht:t.size<=9223372036854775807) (w:World) :
   Calls Tryz.prog 18 #[.agg #[.int .i64 k,.string t,.int .i64 i,.float .f64 r,.bool f,.slice none 0 0]] w fun e w' => e=.returned (.bool (okV (Ao k t i r f)))/\Below w.heap.size w w' := by
 have h:=rright_any (Ao k t i r f) none 0 w (RV.leaf _ _ _ _ _ _ _ _) ((V.sized_eq _).2 ⟨ht,trivial⟩) (by simp [Ao,V.count,V.countL])
 rw [<-right_check,leaf_check k t i r f hk] at h
 have e:((if okV (Ao k t i r f)=true then (0:Int) else 31) == 0)=okV (Ao k t i r f):=by cases okV (Ao k t i r f)<;>rfl
 rw [e] at h
 exact h
def singA (o:Option V):Ending:=match o with
 | some v=>if okV v=true then .returned (.tuple #[.agg #[.int .i64 v.kind,.string v.text,.int .i64 v.int,.float .f64 v.real,.bool v.flag,.slice none 0 0],.int .i64 0]) else .returned (.tuple #[.agg #[.int .i64 0,.string ⟨#[]⟩,.int .i64 0,.float .f64 0,.bool false,.slice none 0 0],.int .i64 2])
 | none=>.returned (.tuple #[.agg #[.int .i64 0,.string ⟨#[]⟩,.int .i64 0,.float .f64 0,.bool false,.slice none 0 0],.int .i64 2])
def Fb (o:Option V) (w:World) (e:Ending) (w' : World):Prop:=e=singA o/\Below w.heap.size w w'
theorem Df {k:Int} {t:ByteArray} {i:Int} {r:Nat} {f:Bool} (h:okV (Ao k t i r f)=true):Ending.returned (.tuple #[.agg #[.int .i64 k,.string t,.int .i64 i,.float .f64 r,.bool f,.slice none 0 0],.int .i64 0])=singA (some (Ao k t i r f)):=by
 unfold singA;dsimp only;rw [if_pos h];rfl
theorem Ey {v:V} (h:okV v=false):Ending.returned (.tuple #[.agg #[.int .i64 0,.string ⟨#[]⟩,.int .i64 0,.float .f64 0,.bool false,.slice none 0 0],.int .i64 2])=singA (some v):=by
 unfold singA;dsimp only;rw [if_neg (by rw [h];decide)]
theorem Two.set1 {w W:World} {k:Int} {t:ByteArray} {i:Int} {r:Nat} {f:Bool} (h:Two w W k t i r f) (n:ByteArray):Two w (W.setCell ⟨w.heap.size+1,1,none⟩ (.string n)) k n i r f:=by
 have g:=fun q x (hq:([.int .i64 k,.string t,.int .i64 i,.float .f64 r,.bool f,.slice none 0 0]:List Value)[q]?=some x)=>h.full q x hq;refine ⟨fun q x hq=>?_,range6 ?_ (Am (g 1 _ rfl)) ?_ ?_ ?_ ?_,h.blk.setCell _ _,h.blk1.setCell _ _,h.below.trans ((Fr.setCell (S:=fun k=>k=w.heap.size+1) (Fr.refl _ _) (fun _=>rfl) _).below h.below.size (fun i hi e=>by omega))⟩
 · rw [Ad (by simp)];exact h.zero q x hq
 · rw [Ad (by simp)];exact g 0 _ rfl
 · rw [Ad (by simp)];exact g 2 _ rfl
 · rw [Ad (by simp)];exact g 3 _ rfl
 · rw [Ad (by simp)];exact g 4 _ rfl
 · rw [Ad (by simp)];exact g 5 _ rfl
set_option maxRecDepth 100000 in
set_option maxHeartbeats 3200000 in
theorem sing_1 {w:World} {t:ByteArray} (ht:t.size<=1000000):Calls Tryz.prog 75 #[.int .i64 1,.string t] w (Fb (some (Ao 1 t 0 0 false)) w):=by
 have hck:=Ci 1 t 0 0 false (by decide) (by omega);have h2:=Two.start w 1 ⟨#[]⟩ 0 0 false;obtain ⟨W2,hW2⟩:∃W,W=(w.alloc (.cells #[.int .i64 0,.string ⟨#[]⟩,.int .i64 0,.float .f64 0,.bool false,.slice none 0 0] 26)).alloc (.cells #[.int .i64 1,.string ⟨#[]⟩,.int .i64 0,.float .f64 0,.bool false,.slice none 0 0] 26):=⟨_,rfl⟩;rw [<-hW2] at h2;have z:=h2.blk1.frz 1 none;have y0:=h2.full 0 _ rfl;have y1:=h2.full 1 _ rfl;have y2:=h2.full 2 _ rfl;have y3:=h2.full 3 _ rfl;have y4:=h2.full 4 _ rfl;have y5:=h2.full 5 _ rfl;rw [Nat.zero_add] at y0 y1 y2 y3 y4 y5;have h4:=h2.set1 t;have c0:=h4.full 0 _ rfl;have c1:=h4.full 1 _ rfl;have c2:=h4.full 2 _ rfl;have c3:=h4.full 3 _ rfl;have c4:=h4.full 4 _ rfl;have c5:=h4.full 5 _ rfl;rw [Nat.zero_add] at c0 c1 c2 c3 c4 c5;replace h4:=Hd h4;clear h2;obtain ⟨ok,hok⟩:∃b,b=okV (Ao 1 t 0 0 false):=⟨_,rfl⟩;rw [<-hok] at hck;replace hck:=Hd hck
 replace hok:=Hd hok;replace hW2:=Hd hW2;cases ok with
 | true=>
   go_enter Tryz.func75,Tryz.ntmps75
   go_upto_region 2 with fail
   rw [<-hW2.out];clear hW2;go_wp2_with fail
   refine (hck.out _).mono ?_;rintro e w3 ⟨rfl,hb⟩;have h3:=h4.out.move hb;clear hb y0 y1 y2 y3 y4 y5 c0 c1 c2 c3 c4 c5 z;have hrR:(w3.setCells w.heap.size 0 [.int .i64 1,.string t,.int .i64 0,.float .f64 0,.bool false,.slice none 0 0]).rangeAt w.heap.size 0 [.int .i64 1,.string t,.int .i64 0,.float .f64 0,.bool false,.slice none 0 0]:=
     World.rangeAt_setCells_same _ _ _ _ (Ae (n:=6) h3.zero h3.blk rfl)
   have htC:=Ae (n:=6) h3.zero h3.blk rfl;have hfu:=h3.full;have hbl:Below w.heap.size w (w3.setCells w.heap.size 0 [.int .i64 1,.string t,.int .i64 0,.float .f64 0,.bool false,.slice none 0 0]):=
     h3.below.trans ((Fr.setCells (S:=fun k=>k=w.heap.size) (fun _=>rfl) _ _ _ (Fr.refl _ w3)).below h3.below.size (fun i hi h=>by omega))
   replace hrR:=Hd hrR;replace htC:=Hd htC;replace hfu:=Hd hfu;replace hbl:=Hd hbl;replace h3:=Hd h3
   go_wp2_with (first
     | (refine wpList_load_mid rfl 26 _ rfl (w.heap.size+1) 0 rfl _ _ hfu.out Tryz.underlying26 rfl Ab ?_)
     | (refine wpList_store_mid rfl 26 _ _ rfl w.heap.size 0 _ rfl rfl htC.out Ab (one6 _ _ _ _ _ _ _ _) ?_))
   refine bodyPost_ret (Ar (v:=.agg #[.int .i64 1,.string t,.int .i64 0,.float .f64 0,.bool false,.slice none 0 0]) rfl rfl (run_loadVar_mid (P:=Tryz.prog) _ _ 0 26 _ _ hrR.out Tryz.underlying26 rfl Ab)) rfl ?_;exact ⟨Df hok.out.symm,hbl.out⟩
 | false=>
   go_enter Tryz.func75,Tryz.ntmps75
   go_upto_region 2 with fail
   rw [<-hW2.out];clear hW2;go_wp2_with fail
   refine (hck.out _).mono ?_;rintro e w3 ⟨rfl,hb⟩;have h3:=h4.out.move hb;clear hb y0 y1 y2 y3 y4 y5 c0 c1 c2 c3 c4 c5 z;have hrR:(w3.setCells w.heap.size 0 [.int .i64 0,.string (⟨#[]⟩:ByteArray),.int .i64 0,.float .f64 0,.bool false,.slice none 0 0]).rangeAt w.heap.size 0 [.int .i64 0,.string (⟨#[]⟩:ByteArray),.int .i64 0,.float .f64 0,.bool false,.slice none 0 0]:=
     World.rangeAt_setCells_same _ _ _ _ (Ae (n:=6) h3.zero h3.blk rfl)
   have htC:=Ae (n:=6) h3.zero h3.blk rfl;have hfu:=h3.full;have hbl:Below w.heap.size w (w3.setCells w.heap.size 0 [.int .i64 0,.string (⟨#[]⟩:ByteArray),.int .i64 0,.float .f64 0,.bool false,.slice none 0 0]):=
     h3.below.trans ((Fr.setCells (S:=fun k=>k=w.heap.size) (fun _=>rfl) _ _ _ (Fr.refl _ w3)).below h3.below.size (fun i hi h=>by omega))
   replace hrR:=Hd hrR;replace htC:=Hd htC;replace hfu:=Hd hfu;replace hbl:=Hd hbl;replace h3:=Hd h3
   go_wp2_with (first
     | (refine wpList_load_mid rfl 26 _ rfl (w.heap.size+1) 0 rfl _ _ hfu.out Tryz.underlying26 rfl Ab ?_)
     | (refine wpList_store_mid rfl 26 _ _ rfl w.heap.size 0 _ rfl rfl htC.out Ab (one6 _ _ _ _ _ _ _ _) ?_))
   refine bodyPost_ret (Ar (v:=.agg #[.int .i64 0,.string (⟨#[]⟩:ByteArray),.int .i64 0,.float .f64 0,.bool false,.slice none 0 0]) rfl rfl (run_loadVar_mid (P:=Tryz.prog) _ _ 0 26 _ _ hrR.out Tryz.underlying26 rfl Ab)) rfl ?_;exact ⟨Ey hok.out.symm,hbl.out⟩
set_option maxRecDepth 100000 in
set_option maxHeartbeats 3200000 in
theorem sing_2 {w:World} {t:ByteArray} (ht:t.size<=1000000):Calls Tryz.prog 75 #[.int .i64 2,.string t] w (Fb (some (Ao 2 t 0 0 false)) w):=by
 have hck:=Ci 2 t 0 0 false (by decide) (by omega);have h2:=Two.start w 2 ⟨#[]⟩ 0 0 false;obtain ⟨W2,hW2⟩:∃W,W=(w.alloc (.cells #[.int .i64 0,.string ⟨#[]⟩,.int .i64 0,.float .f64 0,.bool false,.slice none 0 0] 26)).alloc (.cells #[.int .i64 2,.string ⟨#[]⟩,.int .i64 0,.float .f64 0,.bool false,.slice none 0 0] 26):=⟨_,rfl⟩;rw [<-hW2] at h2;have z:=h2.blk1.frz 1 none;have y0:=h2.full 0 _ rfl;have y1:=h2.full 1 _ rfl;have y2:=h2.full 2 _ rfl;have y3:=h2.full 3 _ rfl;have y4:=h2.full 4 _ rfl;have y5:=h2.full 5 _ rfl;rw [Nat.zero_add] at y0 y1 y2 y3 y4 y5;have h4:=h2.set1 t;have c0:=h4.full 0 _ rfl;have c1:=h4.full 1 _ rfl;have c2:=h4.full 2 _ rfl;have c3:=h4.full 3 _ rfl;have c4:=h4.full 4 _ rfl;have c5:=h4.full 5 _ rfl;rw [Nat.zero_add] at c0 c1 c2 c3 c4 c5;replace h4:=Hd h4;clear h2;obtain ⟨ok,hok⟩:∃b,b=okV (Ao 2 t 0 0 false):=⟨_,rfl⟩;rw [<-hok] at hck;replace hck:=Hd hck
 replace hok:=Hd hok;replace hW2:=Hd hW2;cases ok with
 | true=>
   go_enter Tryz.func75,Tryz.ntmps75
   go_upto_region 2 with fail
   rw [<-hW2.out];clear hW2;go_wp2_with fail
   refine (hck.out _).mono ?_;rintro e w3 ⟨rfl,hb⟩;have h3:=h4.out.move hb;clear hb y0 y1 y2 y3 y4 y5 c0 c1 c2 c3 c4 c5 z;have hrR:(w3.setCells w.heap.size 0 [.int .i64 2,.string t,.int .i64 0,.float .f64 0,.bool false,.slice none 0 0]).rangeAt w.heap.size 0 [.int .i64 2,.string t,.int .i64 0,.float .f64 0,.bool false,.slice none 0 0]:=
     World.rangeAt_setCells_same _ _ _ _ (Ae (n:=6) h3.zero h3.blk rfl)
   have htC:=Ae (n:=6) h3.zero h3.blk rfl;have hfu:=h3.full;have hbl:Below w.heap.size w (w3.setCells w.heap.size 0 [.int .i64 2,.string t,.int .i64 0,.float .f64 0,.bool false,.slice none 0 0]):=
     h3.below.trans ((Fr.setCells (S:=fun k=>k=w.heap.size) (fun _=>rfl) _ _ _ (Fr.refl _ w3)).below h3.below.size (fun i hi h=>by omega))
   replace hrR:=Hd hrR;replace htC:=Hd htC;replace hfu:=Hd hfu;replace hbl:=Hd hbl;replace h3:=Hd h3
   go_wp2_with (first
     | (refine wpList_load_mid rfl 26 _ rfl (w.heap.size+1) 0 rfl _ _ hfu.out Tryz.underlying26 rfl Ab ?_)
     | (refine wpList_store_mid rfl 26 _ _ rfl w.heap.size 0 _ rfl rfl htC.out Ab (one6 _ _ _ _ _ _ _ _) ?_))
   refine bodyPost_ret (Ar (v:=.agg #[.int .i64 2,.string t,.int .i64 0,.float .f64 0,.bool false,.slice none 0 0]) rfl rfl (run_loadVar_mid (P:=Tryz.prog) _ _ 0 26 _ _ hrR.out Tryz.underlying26 rfl Ab)) rfl ?_;exact ⟨Df hok.out.symm,hbl.out⟩
 | false=>
   go_enter Tryz.func75,Tryz.ntmps75
   go_upto_region 2 with fail
   rw [<-hW2.out];clear hW2;go_wp2_with fail
   refine (hck.out _).mono ?_;rintro e w3 ⟨rfl,hb⟩;have h3:=h4.out.move hb;clear hb y0 y1 y2 y3 y4 y5 c0 c1 c2 c3 c4 c5 z;have hrR:(w3.setCells w.heap.size 0 [.int .i64 0,.string (⟨#[]⟩:ByteArray),.int .i64 0,.float .f64 0,.bool false,.slice none 0 0]).rangeAt w.heap.size 0 [.int .i64 0,.string (⟨#[]⟩:ByteArray),.int .i64 0,.float .f64 0,.bool false,.slice none 0 0]:=
     World.rangeAt_setCells_same _ _ _ _ (Ae (n:=6) h3.zero h3.blk rfl)
   have htC:=Ae (n:=6) h3.zero h3.blk rfl;have hfu:=h3.full;have hbl:Below w.heap.size w (w3.setCells w.heap.size 0 [.int .i64 0,.string (⟨#[]⟩:ByteArray),.int .i64 0,.float .f64 0,.bool false,.slice none 0 0]):=
     h3.below.trans ((Fr.setCells (S:=fun k=>k=w.heap.size) (fun _=>rfl) _ _ _ (Fr.refl _ w3)).below h3.below.size (fun i hi h=>by omega))
   replace hrR:=Hd hrR;replace htC:=Hd htC;replace hfu:=Hd hfu;replace hbl:=Hd hbl;replace h3:=Hd h3
   go_wp2_with (first
     | (refine wpList_load_mid rfl 26 _ rfl (w.heap.size+1) 0 rfl _ _ hfu.out Tryz.underlying26 rfl Ab ?_)
     | (refine wpList_store_mid rfl 26 _ _ rfl w.heap.size 0 _ rfl rfl htC.out Ab (one6 _ _ _ _ _ _ _ _) ?_))
   refine bodyPost_ret (Ar (v:=.agg #[.int .i64 0,.string (⟨#[]⟩:ByteArray),.int .i64 0,.float .f64 0,.bool false,.slice none 0 0]) rfl rfl (run_loadVar_mid (P:=Tryz.prog) _ _ 0 26 _ _ hrR.out Tryz.underlying26 rfl Ab)) rfl ?_;exact ⟨Ey hok.out.symm,hbl.out⟩
set_option maxRecDepth 100000 in
set_option maxHeartbeats 3200000 in
theorem sing_9 {w:World} {t:ByteArray} (ht:t.size<=1000000):Calls Tryz.prog 75 #[.int .i64 9,.string t] w (Fb (some (Ao 9 t 0 0 false)) w):=by
 have hck:=Ci 9 t 0 0 false (by decide) (by omega);have h2:=Two.start w 9 ⟨#[]⟩ 0 0 false;obtain ⟨W2,hW2⟩:∃W,W=(w.alloc (.cells #[.int .i64 0,.string ⟨#[]⟩,.int .i64 0,.float .f64 0,.bool false,.slice none 0 0] 26)).alloc (.cells #[.int .i64 9,.string ⟨#[]⟩,.int .i64 0,.float .f64 0,.bool false,.slice none 0 0] 26):=⟨_,rfl⟩;rw [<-hW2] at h2;have z:=h2.blk1.frz 1 none;have y0:=h2.full 0 _ rfl;have y1:=h2.full 1 _ rfl;have y2:=h2.full 2 _ rfl;have y3:=h2.full 3 _ rfl;have y4:=h2.full 4 _ rfl;have y5:=h2.full 5 _ rfl;rw [Nat.zero_add] at y0 y1 y2 y3 y4 y5;have h4:=h2.set1 t;have c0:=h4.full 0 _ rfl;have c1:=h4.full 1 _ rfl;have c2:=h4.full 2 _ rfl;have c3:=h4.full 3 _ rfl;have c4:=h4.full 4 _ rfl;have c5:=h4.full 5 _ rfl;rw [Nat.zero_add] at c0 c1 c2 c3 c4 c5;replace h4:=Hd h4;clear h2;obtain ⟨ok,hok⟩:∃b,b=okV (Ao 9 t 0 0 false):=⟨_,rfl⟩;rw [<-hok] at hck;replace hck:=Hd hck
 replace hok:=Hd hok;replace hW2:=Hd hW2;cases ok with
 | true=>
   go_enter Tryz.func75,Tryz.ntmps75
   go_upto_region 2 with fail
   rw [<-hW2.out];clear hW2;go_wp2_with fail
   refine (hck.out _).mono ?_;rintro e w3 ⟨rfl,hb⟩;have h3:=h4.out.move hb;clear hb y0 y1 y2 y3 y4 y5 c0 c1 c2 c3 c4 c5 z;have hrR:(w3.setCells w.heap.size 0 [.int .i64 9,.string t,.int .i64 0,.float .f64 0,.bool false,.slice none 0 0]).rangeAt w.heap.size 0 [.int .i64 9,.string t,.int .i64 0,.float .f64 0,.bool false,.slice none 0 0]:=
     World.rangeAt_setCells_same _ _ _ _ (Ae (n:=6) h3.zero h3.blk rfl)
   have htC:=Ae (n:=6) h3.zero h3.blk rfl;have hfu:=h3.full;have hbl:Below w.heap.size w (w3.setCells w.heap.size 0 [.int .i64 9,.string t,.int .i64 0,.float .f64 0,.bool false,.slice none 0 0]):=
     h3.below.trans ((Fr.setCells (S:=fun k=>k=w.heap.size) (fun _=>rfl) _ _ _ (Fr.refl _ w3)).below h3.below.size (fun i hi h=>by omega))
   replace hrR:=Hd hrR;replace htC:=Hd htC;replace hfu:=Hd hfu;replace hbl:=Hd hbl;replace h3:=Hd h3
   go_wp2_with (first
     | (refine wpList_load_mid rfl 26 _ rfl (w.heap.size+1) 0 rfl _ _ hfu.out Tryz.underlying26 rfl Ab ?_)
     | (refine wpList_store_mid rfl 26 _ _ rfl w.heap.size 0 _ rfl rfl htC.out Ab (one6 _ _ _ _ _ _ _ _) ?_))
   refine bodyPost_ret (Ar (v:=.agg #[.int .i64 9,.string t,.int .i64 0,.float .f64 0,.bool false,.slice none 0 0]) rfl rfl (run_loadVar_mid (P:=Tryz.prog) _ _ 0 26 _ _ hrR.out Tryz.underlying26 rfl Ab)) rfl ?_;exact ⟨Df hok.out.symm,hbl.out⟩
 | false=>
   go_enter Tryz.func75,Tryz.ntmps75
   go_upto_region 2 with fail
   rw [<-hW2.out];clear hW2;go_wp2_with fail
   refine (hck.out _).mono ?_;rintro e w3 ⟨rfl,hb⟩;have h3:=h4.out.move hb;clear hb y0 y1 y2 y3 y4 y5 c0 c1 c2 c3 c4 c5 z;have hrR:(w3.setCells w.heap.size 0 [.int .i64 0,.string (⟨#[]⟩:ByteArray),.int .i64 0,.float .f64 0,.bool false,.slice none 0 0]).rangeAt w.heap.size 0 [.int .i64 0,.string (⟨#[]⟩:ByteArray),.int .i64 0,.float .f64 0,.bool false,.slice none 0 0]:=
     World.rangeAt_setCells_same _ _ _ _ (Ae (n:=6) h3.zero h3.blk rfl)
   have htC:=Ae (n:=6) h3.zero h3.blk rfl;have hfu:=h3.full;have hbl:Below w.heap.size w (w3.setCells w.heap.size 0 [.int .i64 0,.string (⟨#[]⟩:ByteArray),.int .i64 0,.float .f64 0,.bool false,.slice none 0 0]):=
     h3.below.trans ((Fr.setCells (S:=fun k=>k=w.heap.size) (fun _=>rfl) _ _ _ (Fr.refl _ w3)).below h3.below.size (fun i hi h=>by omega))
   replace hrR:=Hd hrR;replace htC:=Hd htC;replace hfu:=Hd hfu;replace hbl:=Hd hbl;replace h3:=Hd h3
   go_wp2_with (first
     | (refine wpList_load_mid rfl 26 _ rfl (w.heap.size+1) 0 rfl _ _ hfu.out Tryz.underlying26 rfl Ab ?_)
     | (refine wpList_store_mid rfl 26 _ _ rfl w.heap.size 0 _ rfl rfl htC.out Ab (one6 _ _ _ _ _ _ _ _) ?_))
   refine bodyPost_ret (Ar (v:=.agg #[.int .i64 0,.string (⟨#[]⟩:ByteArray),.int .i64 0,.float .f64 0,.bool false,.slice none 0 0]) rfl rfl (run_loadVar_mid (P:=Tryz.prog) _ _ 0 26 _ _ hrR.out Tryz.underlying26 rfl Ab)) rfl ?_;exact ⟨Ey hok.out.symm,hbl.out⟩
set_option maxRecDepth 100000 in
set_option maxHeartbeats 3200000 in
theorem sing_3 {w:World} {t:ByteArray} (ht:t.size<=1000000):Calls Tryz.prog 75 #[.int .i64 3,.string t] w (Fb ((wP t.data.toList).map fun n=>Ao 3 ⟨#[]⟩ n 0 false) w):=by
 have hp0:=fun W=>parse01_any t (by omega) W;cases hw:wP t.data.toList with
 | none=>
   have hp:∀W,Below w.heap.size w W->Calls Tryz.prog 91 #[.string t] W fun e w' => e=.returned (.tuple #[.int .i64 0,.int .i64 11])/\Below W.heap.size W w' := fun W _=>by
     have:=hp0 W;rw [hw] at this;exact this
   clear hp0 hw;have h2:=Two.start w 3 ⟨#[]⟩ 0 0 false;obtain ⟨W2,hW2⟩:∃W,W=(w.alloc (.cells #[.int .i64 0,.string ⟨#[]⟩,.int .i64 0,.float .f64 0,.bool false,.slice none 0 0] 26)).alloc (.cells #[.int .i64 3,.string ⟨#[]⟩,.int .i64 0,.float .f64 0,.bool false,.slice none 0 0] 26):=⟨_,rfl⟩;rw [<-hW2] at h2;replace hW2:=Hd hW2;have hp2:=hp W2 h2.below;replace hp2:=Hd hp2;replace h2:=Hd h2
   go_enter Tryz.func75,Tryz.ntmps75
   go_upto_region 2 with fail
   rw [<-hW2.out];clear hW2;go_wp2_with fail
   refine hp2.out.mono ?_;rintro e w3 ⟨rfl,hb⟩;have h2:=h2.out.move hb;clear hb hp2;have z:=h2.blk1.frz 2 none;have y0:=h2.full 0 _ rfl;have y1:=h2.full 1 _ rfl;have y2:=h2.full 2 _ rfl;have y3:=h2.full 3 _ rfl;have y4:=h2.full 4 _ rfl;have y5:=h2.full 5 _ rfl;rw [Nat.zero_add] at y0 y1 y2 y3 y4 y5;have h4:=h2.set2 0;have c0:=h4.full 0 _ rfl;have c1:=h4.full 1 _ rfl;have c2:=h4.full 2 _ rfl;have c3:=h4.full 3 _ rfl;have c4:=h4.full 4 _ rfl;have c5:=h4.full 5 _ rfl;rw [Nat.zero_add] at c0 c1 c2 c3 c4 c5;replace h4:=Hd h4;clear h2;go_upto_region 19 with fail
   obtain ⟨w4,hw4⟩:∃x,x=w3.setCell ⟨w.heap.size+1,2,none⟩ (.int .i64 0):=⟨_,rfl⟩;rw [<-hw4] at h4 c0 c1 c2 c3 c4 c5 ⊢;replace hw4:=Hd hw4;have h3:=h4.out;clear y0 y1 y2 y3 y4 y5 c0 c1 c2 c3 c4 c5 z;have hrR:(w4.setCells w.heap.size 0 [.int .i64 0,.string (⟨#[]⟩:ByteArray),.int .i64 0,.float .f64 0,.bool false,.slice none 0 0]).rangeAt w.heap.size 0 [.int .i64 0,.string (⟨#[]⟩:ByteArray),.int .i64 0,.float .f64 0,.bool false,.slice none 0 0]:=
     World.rangeAt_setCells_same _ _ _ _ (Ae (n:=6) h3.zero h3.blk rfl)
   have htC:=Ae (n:=6) h3.zero h3.blk rfl;have hfu:=h3.full;have hbl:Below w.heap.size w (w4.setCells w.heap.size 0 [.int .i64 0,.string (⟨#[]⟩:ByteArray),.int .i64 0,.float .f64 0,.bool false,.slice none 0 0]):=
     h3.below.trans ((Fr.setCells (S:=fun k=>k=w.heap.size) (fun _=>rfl) _ _ _ (Fr.refl _ w4)).below h3.below.size (fun i hi h=>by omega))
   replace hrR:=Hd hrR;replace htC:=Hd htC;replace hfu:=Hd hfu;replace hbl:=Hd hbl;replace h3:=Hd h3
   go_wp2_with (first
     | (refine wpList_load_mid rfl 26 _ rfl (w.heap.size+1) 0 rfl _ _ hfu.out Tryz.underlying26 rfl Ab ?_)
     | (refine wpList_store_mid rfl 26 _ _ rfl w.heap.size 0 _ rfl rfl htC.out Ab (one6 _ _ _ _ _ _ _ _) ?_))
   refine bodyPost_ret (Ar (v:=.agg #[.int .i64 0,.string (⟨#[]⟩:ByteArray),.int .i64 0,.float .f64 0,.bool false,.slice none 0 0]) rfl rfl (run_loadVar_mid (P:=Tryz.prog) _ _ 0 26 _ _ hrR.out Tryz.underlying26 rfl Ab)) rfl ?_;exact ⟨rfl,hbl.out⟩
 | some n=>
   have hp:∀W,Below w.heap.size w W->Calls Tryz.prog 91 #[.string t] W fun e w' => e=.returned (.tuple #[.int .i64 n,.int .i64 0])/\Below W.heap.size W w' := fun W _=>by
     have:=hp0 W;rw [hw] at this;exact this
   clear hp0 hw;have hck:=Ci 3 ⟨#[]⟩ n 0 false (by decide) (by decide);obtain ⟨ok,hok⟩:∃b,b=okV (Ao 3 ⟨#[]⟩ n 0 false):=⟨_,rfl⟩;rw [<-hok] at hck;replace hck:=Hd hck;replace hok:=Hd hok;have h2:=Two.start w 3 ⟨#[]⟩ 0 0 false;obtain ⟨W2,hW2⟩:∃W,W=(w.alloc (.cells #[.int .i64 0,.string ⟨#[]⟩,.int .i64 0,.float .f64 0,.bool false,.slice none 0 0] 26)).alloc (.cells #[.int .i64 3,.string ⟨#[]⟩,.int .i64 0,.float .f64 0,.bool false,.slice none 0 0] 26):=⟨_,rfl⟩;rw [<-hW2] at h2;replace hW2:=Hd hW2;have hp2:=hp W2 h2.below;replace hp2:=Hd hp2;replace h2:=Hd h2
   go_enter Tryz.func75,Tryz.ntmps75
   go_upto_region 2 with fail
   rw [<-hW2.out];clear hW2;go_wp2_with fail
   refine hp2.out.mono ?_;rintro e w3 ⟨rfl,hb⟩;have h2:=h2.out.move hb;clear hb hp2;have z:=h2.blk1.frz 2 none;have y0:=h2.full 0 _ rfl;have y1:=h2.full 1 _ rfl;have y2:=h2.full 2 _ rfl;have y3:=h2.full 3 _ rfl;have y4:=h2.full 4 _ rfl;have y5:=h2.full 5 _ rfl;rw [Nat.zero_add] at y0 y1 y2 y3 y4 y5;have h4:=h2.set2 n;have c0:=h4.full 0 _ rfl;have c1:=h4.full 1 _ rfl;have c2:=h4.full 2 _ rfl;have c3:=h4.full 3 _ rfl;have c4:=h4.full 4 _ rfl;have c5:=h4.full 5 _ rfl;rw [Nat.zero_add] at c0 c1 c2 c3 c4 c5;replace h4:=Hd h4;clear h2;cases ok with
   | true=>
     go_wp2_with fail
     refine (hck.out _).mono ?_;rintro e w5 ⟨rfl,hb⟩;have h3:=h4.out.move hb;clear hb y0 y1 y2 y3 y4 y5 c0 c1 c2 c3 c4 c5 z;obtain ⟨w3,hw3⟩:∃w3,w3=w5:=⟨_,rfl⟩;rw [<-hw3] at h3 ⊢;replace hw3:=Hd hw3;have hrR:(w3.setCells w.heap.size 0 [.int .i64 3,.string (⟨#[]⟩:ByteArray),.int .i64 n,.float .f64 0,.bool false,.slice none 0 0]).rangeAt w.heap.size 0 [.int .i64 3,.string (⟨#[]⟩:ByteArray),.int .i64 n,.float .f64 0,.bool false,.slice none 0 0]:=
       World.rangeAt_setCells_same _ _ _ _ (Ae (n:=6) h3.zero h3.blk rfl)
     have htC:=Ae (n:=6) h3.zero h3.blk rfl;have hfu:=h3.full;have hbl:Below w.heap.size w (w3.setCells w.heap.size 0 [.int .i64 3,.string (⟨#[]⟩:ByteArray),.int .i64 n,.float .f64 0,.bool false,.slice none 0 0]):=
       h3.below.trans ((Fr.setCells (S:=fun k=>k=w.heap.size) (fun _=>rfl) _ _ _ (Fr.refl _ w3)).below h3.below.size (fun i hi h=>by omega))
     replace hrR:=Hd hrR;replace htC:=Hd htC;replace hfu:=Hd hfu;replace hbl:=Hd hbl;replace h3:=Hd h3
     go_wp2_with (first
       | (refine wpList_load_mid rfl 26 _ rfl (w.heap.size+1) 0 rfl _ _ hfu.out Tryz.underlying26 rfl Ab ?_)
       | (refine wpList_store_mid rfl 26 _ _ rfl w.heap.size 0 _ rfl rfl htC.out Ab (one6 _ _ _ _ _ _ _ _) ?_))
     refine bodyPost_ret (Ar (v:=.agg #[.int .i64 3,.string (⟨#[]⟩:ByteArray),.int .i64 n,.float .f64 0,.bool false,.slice none 0 0]) rfl rfl (run_loadVar_mid (P:=Tryz.prog) _ _ 0 26 _ _ hrR.out Tryz.underlying26 rfl Ab)) rfl ?_;exact ⟨Df hok.out.symm,hbl.out⟩
   | false=>
     go_wp2_with fail
     refine (hck.out _).mono ?_;rintro e w5 ⟨rfl,hb⟩;have h3:=h4.out.move hb;clear hb y0 y1 y2 y3 y4 y5 c0 c1 c2 c3 c4 c5 z;obtain ⟨w3,hw3⟩:∃w3,w3=w5:=⟨_,rfl⟩;rw [<-hw3] at h3 ⊢;replace hw3:=Hd hw3;have hrR:(w3.setCells w.heap.size 0 [.int .i64 0,.string (⟨#[]⟩:ByteArray),.int .i64 0,.float .f64 0,.bool false,.slice none 0 0]).rangeAt w.heap.size 0 [.int .i64 0,.string (⟨#[]⟩:ByteArray),.int .i64 0,.float .f64 0,.bool false,.slice none 0 0]:=
       World.rangeAt_setCells_same _ _ _ _ (Ae (n:=6) h3.zero h3.blk rfl)
     have htC:=Ae (n:=6) h3.zero h3.blk rfl;have hfu:=h3.full;have hbl:Below w.heap.size w (w3.setCells w.heap.size 0 [.int .i64 0,.string (⟨#[]⟩:ByteArray),.int .i64 0,.float .f64 0,.bool false,.slice none 0 0]):=
       h3.below.trans ((Fr.setCells (S:=fun k=>k=w.heap.size) (fun _=>rfl) _ _ _ (Fr.refl _ w3)).below h3.below.size (fun i hi h=>by omega))
     replace hrR:=Hd hrR;replace htC:=Hd htC;replace hfu:=Hd hfu;replace hbl:=Hd hbl;replace h3:=Hd h3
     go_wp2_with (first
       | (refine wpList_load_mid rfl 26 _ rfl (w.heap.size+1) 0 rfl _ _ hfu.out Tryz.underlying26 rfl Ab ?_)
       | (refine wpList_store_mid rfl 26 _ _ rfl w.heap.size 0 _ rfl rfl htC.out Ab (one6 _ _ _ _ _ _ _ _) ?_))
     refine bodyPost_ret (Ar (v:=.agg #[.int .i64 0,.string (⟨#[]⟩:ByteArray),.int .i64 0,.float .f64 0,.bool false,.slice none 0 0]) rfl rfl (run_loadVar_mid (P:=Tryz.prog) _ _ 0 26 _ _ hrR.out Tryz.underlying26 rfl Ab)) rfl ?_;exact ⟨Ey hok.out.symm,hbl.out⟩
theorem Two.set4 {w W:World} {k:Int} {t:ByteArray} {i:Int} {r:Nat} {f:Bool} (h:Two w W k t i r f) (n:Bool):Two w (W.setCell ⟨w.heap.size+1,4,none⟩ (.bool n)) k t i r n:=by
 have g:=fun q x (hq:([.int .i64 k,.string t,.int .i64 i,.float .f64 r,.bool f,.slice none 0 0]:List Value)[q]?=some x)=>h.full q x hq;refine ⟨fun q x hq=>?_,range6 ?_ ?_ ?_ ?_ (Am (g 4 _ rfl)) ?_,h.blk.setCell _ _,h.blk1.setCell _ _,h.below.trans ((Fr.setCell (S:=fun k=>k=w.heap.size+1) (Fr.refl _ _) (fun _=>rfl) _).below h.below.size (fun i hi e=>by omega))⟩
 · rw [Ad (by simp)];exact h.zero q x hq
 · rw [Ad (by simp)];exact g 0 _ rfl
 · rw [Ad (by simp)];exact g 1 _ rfl
 · rw [Ad (by simp)];exact g 2 _ rfl
 · rw [Ad (by simp)];exact g 3 _ rfl
 · rw [Ad (by simp)];exact g 5 _ rfl
def ParE (o:Option Nat):Ending:=match o with
 | some r=>.returned (.tuple #[.float .f64 r,.int .i64 0])
 | none=>.returned (.tuple #[.float .f64 0,.int .i64 21])
set_option maxRecDepth 100000 in
set_option maxHeartbeats 3200000 in
theorem sing_7 {w:World} {t:ByteArray} {o:Option Nat} (hp:∀W,Below w.heap.size w W->Calls Tryz.prog 92 #[.string t] W fun e w' => e=ParE o/\Below W.heap.size W w'):Calls Tryz.prog 75 #[.int .i64 7,.string t] w (Fb (o.map fun r=>Ao 7 ⟨#[]⟩ 0 r false) w):=by
 cases o with
 | none=>
   unfold ParE at hp;have h2:=Two.start w 7 ⟨#[]⟩ 0 0 false;obtain ⟨W2,hW2⟩:∃W,W=(w.alloc (.cells #[.int .i64 0,.string ⟨#[]⟩,.int .i64 0,.float .f64 0,.bool false,.slice none 0 0] 26)).alloc (.cells #[.int .i64 7,.string ⟨#[]⟩,.int .i64 0,.float .f64 0,.bool false,.slice none 0 0] 26):=⟨_,rfl⟩;rw [<-hW2] at h2;replace hW2:=Hd hW2;have hp2:=hp W2 h2.below;replace hp2:=Hd hp2;replace h2:=Hd h2
   go_enter Tryz.func75,Tryz.ntmps75
   go_upto_region 2 with fail
   rw [<-hW2.out];clear hW2;go_wp2_with fail
   refine hp2.out.mono ?_;rintro e w3 ⟨rfl,hb⟩;have h2:=h2.out.move hb;clear hb hp2;have z:=h2.blk1.frz 3 none;have y0:=h2.full 0 _ rfl;have y1:=h2.full 1 _ rfl;have y2:=h2.full 2 _ rfl;have y3:=h2.full 3 _ rfl;have y4:=h2.full 4 _ rfl;have y5:=h2.full 5 _ rfl;rw [Nat.zero_add] at y0 y1 y2 y3 y4 y5;have h4:=h2.set3 0;have c0:=h4.full 0 _ rfl;have c1:=h4.full 1 _ rfl;have c2:=h4.full 2 _ rfl;have c3:=h4.full 3 _ rfl;have c4:=h4.full 4 _ rfl;have c5:=h4.full 5 _ rfl;rw [Nat.zero_add] at c0 c1 c2 c3 c4 c5;replace h4:=Hd h4;clear h2;go_upto_region 19 with fail
   obtain ⟨w4,hw4⟩:∃x,x=w3.setCell ⟨w.heap.size+1,3,none⟩ (.float .f64 0):=⟨_,rfl⟩;rw [<-hw4] at h4 c0 c1 c2 c3 c4 c5 ⊢;replace hw4:=Hd hw4;have h3:=h4.out;clear y0 y1 y2 y3 y4 y5 c0 c1 c2 c3 c4 c5 z;have hrR:(w4.setCells w.heap.size 0 [.int .i64 0,.string (⟨#[]⟩:ByteArray),.int .i64 0,.float .f64 0,.bool false,.slice none 0 0]).rangeAt w.heap.size 0 [.int .i64 0,.string (⟨#[]⟩:ByteArray),.int .i64 0,.float .f64 0,.bool false,.slice none 0 0]:=
     World.rangeAt_setCells_same _ _ _ _ (Ae (n:=6) h3.zero h3.blk rfl)
   have htC:=Ae (n:=6) h3.zero h3.blk rfl;have hfu:=h3.full;have hbl:Below w.heap.size w (w4.setCells w.heap.size 0 [.int .i64 0,.string (⟨#[]⟩:ByteArray),.int .i64 0,.float .f64 0,.bool false,.slice none 0 0]):=
     h3.below.trans ((Fr.setCells (S:=fun k=>k=w.heap.size) (fun _=>rfl) _ _ _ (Fr.refl _ w4)).below h3.below.size (fun i hi h=>by omega))
   replace hrR:=Hd hrR;replace htC:=Hd htC;replace hfu:=Hd hfu;replace hbl:=Hd hbl;replace h3:=Hd h3
   go_wp2_with (first
     | (refine wpList_load_mid rfl 26 _ rfl (w.heap.size+1) 0 rfl _ _ hfu.out Tryz.underlying26 rfl Ab ?_)
     | (refine wpList_store_mid rfl 26 _ _ rfl w.heap.size 0 _ rfl rfl htC.out Ab (one6 _ _ _ _ _ _ _ _) ?_))
   refine bodyPost_ret (Ar (v:=.agg #[.int .i64 0,.string (⟨#[]⟩:ByteArray),.int .i64 0,.float .f64 0,.bool false,.slice none 0 0]) rfl rfl (run_loadVar_mid (P:=Tryz.prog) _ _ 0 26 _ _ hrR.out Tryz.underlying26 rfl Ab)) rfl ?_;exact ⟨rfl,hbl.out⟩
 | some r=>
   unfold ParE at hp;have hck:=Ci 7 ⟨#[]⟩ 0 r false (by decide) (by decide);obtain ⟨ok,hok⟩:∃b,b=okV (Ao 7 ⟨#[]⟩ 0 r false):=⟨_,rfl⟩;rw [<-hok] at hck;replace hck:=Hd hck;replace hok:=Hd hok;have h2:=Two.start w 7 ⟨#[]⟩ 0 0 false;obtain ⟨W2,hW2⟩:∃W,W=(w.alloc (.cells #[.int .i64 0,.string ⟨#[]⟩,.int .i64 0,.float .f64 0,.bool false,.slice none 0 0] 26)).alloc (.cells #[.int .i64 7,.string ⟨#[]⟩,.int .i64 0,.float .f64 0,.bool false,.slice none 0 0] 26):=⟨_,rfl⟩;rw [<-hW2] at h2;replace hW2:=Hd hW2;have hp2:=hp W2 h2.below;replace hp2:=Hd hp2;replace h2:=Hd h2
   go_enter Tryz.func75,Tryz.ntmps75
   go_upto_region 2 with fail
   rw [<-hW2.out];clear hW2;go_wp2_with fail
   refine hp2.out.mono ?_;rintro e w3 ⟨rfl,hb⟩;have h2:=h2.out.move hb;clear hb hp2;have z:=h2.blk1.frz 3 none;have y0:=h2.full 0 _ rfl;have y1:=h2.full 1 _ rfl;have y2:=h2.full 2 _ rfl;have y3:=h2.full 3 _ rfl;have y4:=h2.full 4 _ rfl;have y5:=h2.full 5 _ rfl;rw [Nat.zero_add] at y0 y1 y2 y3 y4 y5;have h4:=h2.set3 r;have c0:=h4.full 0 _ rfl;have c1:=h4.full 1 _ rfl;have c2:=h4.full 2 _ rfl;have c3:=h4.full 3 _ rfl;have c4:=h4.full 4 _ rfl;have c5:=h4.full 5 _ rfl;rw [Nat.zero_add] at c0 c1 c2 c3 c4 c5;replace h4:=Hd h4;clear h2;cases ok with
   | true=>
     go_wp2_with fail
     refine (hck.out _).mono ?_;rintro e w5 ⟨rfl,hb⟩;have h3:=h4.out.move hb;clear hb y0 y1 y2 y3 y4 y5 c0 c1 c2 c3 c4 c5 z;obtain ⟨w3,hw3⟩:∃w3,w3=w5:=⟨_,rfl⟩;rw [<-hw3] at h3 ⊢;replace hw3:=Hd hw3;have hrR:(w3.setCells w.heap.size 0 [.int .i64 7,.string (⟨#[]⟩:ByteArray),.int .i64 0,.float .f64 r,.bool false,.slice none 0 0]).rangeAt w.heap.size 0 [.int .i64 7,.string (⟨#[]⟩:ByteArray),.int .i64 0,.float .f64 r,.bool false,.slice none 0 0]:=
       World.rangeAt_setCells_same _ _ _ _ (Ae (n:=6) h3.zero h3.blk rfl)
     have htC:=Ae (n:=6) h3.zero h3.blk rfl;have hfu:=h3.full;have hbl:Below w.heap.size w (w3.setCells w.heap.size 0 [.int .i64 7,.string (⟨#[]⟩:ByteArray),.int .i64 0,.float .f64 r,.bool false,.slice none 0 0]):=
       h3.below.trans ((Fr.setCells (S:=fun k=>k=w.heap.size) (fun _=>rfl) _ _ _ (Fr.refl _ w3)).below h3.below.size (fun i hi h=>by omega))
     replace hrR:=Hd hrR;replace htC:=Hd htC;replace hfu:=Hd hfu;replace hbl:=Hd hbl;replace h3:=Hd h3
     go_wp2_with (first
       | (refine wpList_load_mid rfl 26 _ rfl (w.heap.size+1) 0 rfl _ _ hfu.out Tryz.underlying26 rfl Ab ?_)
       | (refine wpList_store_mid rfl 26 _ _ rfl w.heap.size 0 _ rfl rfl htC.out Ab (one6 _ _ _ _ _ _ _ _) ?_))
     refine bodyPost_ret (Ar (v:=.agg #[.int .i64 7,.string (⟨#[]⟩:ByteArray),.int .i64 0,.float .f64 r,.bool false,.slice none 0 0]) rfl rfl (run_loadVar_mid (P:=Tryz.prog) _ _ 0 26 _ _ hrR.out Tryz.underlying26 rfl Ab)) rfl ?_;exact ⟨Df hok.out.symm,hbl.out⟩
   | false=>
     go_wp2_with fail
     refine (hck.out _).mono ?_;rintro e w5 ⟨rfl,hb⟩;have h3:=h4.out.move hb;clear hb y0 y1 y2 y3 y4 y5 c0 c1 c2 c3 c4 c5 z;obtain ⟨w3,hw3⟩:∃w3,w3=w5:=⟨_,rfl⟩;rw [<-hw3] at h3 ⊢;replace hw3:=Hd hw3;have hrR:(w3.setCells w.heap.size 0 [.int .i64 0,.string (⟨#[]⟩:ByteArray),.int .i64 0,.float .f64 0,.bool false,.slice none 0 0]).rangeAt w.heap.size 0 [.int .i64 0,.string (⟨#[]⟩:ByteArray),.int .i64 0,.float .f64 0,.bool false,.slice none 0 0]:=
       World.rangeAt_setCells_same _ _ _ _ (Ae (n:=6) h3.zero h3.blk rfl)
     have htC:=Ae (n:=6) h3.zero h3.blk rfl;have hfu:=h3.full;have hbl:Below w.heap.size w (w3.setCells w.heap.size 0 [.int .i64 0,.string (⟨#[]⟩:ByteArray),.int .i64 0,.float .f64 0,.bool false,.slice none 0 0]):=
       h3.below.trans ((Fr.setCells (S:=fun k=>k=w.heap.size) (fun _=>rfl) _ _ _ (Fr.refl _ w3)).below h3.below.size (fun i hi h=>by omega))
     replace hrR:=Hd hrR;replace htC:=Hd htC;replace hfu:=Hd hfu;replace hbl:=Hd hbl;replace h3:=Hd h3
     go_wp2_with (first
       | (refine wpList_load_mid rfl 26 _ rfl (w.heap.size+1) 0 rfl _ _ hfu.out Tryz.underlying26 rfl Ab ?_)
       | (refine wpList_store_mid rfl 26 _ _ rfl w.heap.size 0 _ rfl rfl htC.out Ab (one6 _ _ _ _ _ _ _ _) ?_))
     refine bodyPost_ret (Ar (v:=.agg #[.int .i64 0,.string (⟨#[]⟩:ByteArray),.int .i64 0,.float .f64 0,.bool false,.slice none 0 0]) rfl rfl (run_loadVar_mid (P:=Tryz.prog) _ _ 0 26 _ _ hrR.out Tryz.underlying26 rfl Ab)) rfl ?_;exact ⟨Ey hok.out.symm,hbl.out⟩
set_option maxRecDepth 100000 in
set_option maxHeartbeats 3200000 in
theorem sing_t {w:World}:Calls Tryz.prog 75 #[.int .i64 8,.string ⟨#[116]⟩] w (Fb (some (Ao 8 ⟨#[]⟩ 0 0 true)) w):=by
 have hck:=Ci 8 ⟨#[]⟩ 0 0 true (by decide) (by decide);rw [Dh true] at hck;replace hck:=Hd hck;have h2:=Two.start w 8 ⟨#[]⟩ 0 0 false;obtain ⟨W2,hW2⟩:∃W,W=(w.alloc (.cells #[.int .i64 0,.string ⟨#[]⟩,.int .i64 0,.float .f64 0,.bool false,.slice none 0 0] 26)).alloc (.cells #[.int .i64 8,.string ⟨#[]⟩,.int .i64 0,.float .f64 0,.bool false,.slice none 0 0] 26):=⟨_,rfl⟩;rw [<-hW2] at h2;replace hW2:=Hd hW2;have z:=h2.blk1.frz 4 none;have y0:=h2.full 0 _ rfl;have y1:=h2.full 1 _ rfl;have y2:=h2.full 2 _ rfl;have y3:=h2.full 3 _ rfl;have y4:=h2.full 4 _ rfl;have y5:=h2.full 5 _ rfl;rw [Nat.zero_add] at y0 y1 y2 y3 y4 y5;have h4:=h2.set4 true;have c0:=h4.full 0 _ rfl;have c1:=h4.full 1 _ rfl;have c2:=h4.full 2 _ rfl;have c3:=h4.full 3 _ rfl;have c4:=h4.full 4 _ rfl;have c5:=h4.full 5 _ rfl;rw [Nat.zero_add] at c0 c1 c2 c3 c4 c5;replace h4:=Hd h4;clear h2
 go_enter Tryz.func75,Tryz.ntmps75
 go_upto_region 2 with fail
 rw [<-hW2.out];clear hW2;go_wp2_with fail
 refine (hck.out _).mono ?_;rintro e w5 ⟨rfl,hb⟩;have h3:=h4.out.move hb;clear hb y0 y1 y2 y3 y4 y5 c0 c1 c2 c3 c4 c5 z;obtain ⟨w3,hw3⟩:∃w3,w3=w5:=⟨_,rfl⟩;rw [<-hw3] at h3 ⊢;replace hw3:=Hd hw3;have hrR:(w3.setCells w.heap.size 0 [.int .i64 8,.string (⟨#[]⟩:ByteArray),.int .i64 0,.float .f64 0,.bool true,.slice none 0 0]).rangeAt w.heap.size 0 [.int .i64 8,.string (⟨#[]⟩:ByteArray),.int .i64 0,.float .f64 0,.bool true,.slice none 0 0]:=
   World.rangeAt_setCells_same _ _ _ _ (Ae (n:=6) h3.zero h3.blk rfl)
 have htC:=Ae (n:=6) h3.zero h3.blk rfl;have hfu:=h3.full;have hbl:Below w.heap.size w (w3.setCells w.heap.size 0 [.int .i64 8,.string (⟨#[]⟩:ByteArray),.int .i64 0,.float .f64 0,.bool true,.slice none 0 0]):=
   h3.below.trans ((Fr.setCells (S:=fun k=>k=w.heap.size) (fun _=>rfl) _ _ _ (Fr.refl _ w3)).below h3.below.size (fun i hi h=>by omega))
 replace hrR:=Hd hrR;replace htC:=Hd htC;replace hfu:=Hd hfu;replace hbl:=Hd hbl;replace h3:=Hd h3
 go_wp2_with (first
   | (refine wpList_load_mid rfl 26 _ rfl (w.heap.size+1) 0 rfl _ _ hfu.out Tryz.underlying26 rfl Ab ?_)
   | (refine wpList_store_mid rfl 26 _ _ rfl w.heap.size 0 _ rfl rfl htC.out Ab (one6 _ _ _ _ _ _ _ _) ?_))
 refine bodyPost_ret (Ar (v:=.agg #[.int .i64 8,.string (⟨#[]⟩:ByteArray),.int .i64 0,.float .f64 0,.bool true,.slice none 0 0]) rfl rfl (run_loadVar_mid (P:=Tryz.prog) _ _ 0 26 _ _ hrR.out Tryz.underlying26 rfl Ab)) rfl ?_;exact ⟨Df (Dh true),hbl.out⟩
set_option maxRecDepth 100000 in
set_option maxHeartbeats 3200000 in
theorem sing_f {w:World}:Calls Tryz.prog 75 #[.int .i64 8,.string ⟨#[102]⟩] w (Fb (some (Ao 8 ⟨#[]⟩ 0 0 false)) w):=by
 have hck:=Ci 8 ⟨#[]⟩ 0 0 false (by decide) (by decide);rw [Dh false] at hck;replace hck:=Hd hck;have h2:=Two.start w 8 ⟨#[]⟩ 0 0 false;obtain ⟨W2,hW2⟩:∃W,W=(w.alloc (.cells #[.int .i64 0,.string ⟨#[]⟩,.int .i64 0,.float .f64 0,.bool false,.slice none 0 0] 26)).alloc (.cells #[.int .i64 8,.string ⟨#[]⟩,.int .i64 0,.float .f64 0,.bool false,.slice none 0 0] 26):=⟨_,rfl⟩;rw [<-hW2] at h2;replace hW2:=Hd hW2;have z:=h2.blk1.frz 4 none;have y0:=h2.full 0 _ rfl;have y1:=h2.full 1 _ rfl;have y2:=h2.full 2 _ rfl;have y3:=h2.full 3 _ rfl;have y4:=h2.full 4 _ rfl;have y5:=h2.full 5 _ rfl;rw [Nat.zero_add] at y0 y1 y2 y3 y4 y5;have h4:=h2.set4 false;have c0:=h4.full 0 _ rfl;have c1:=h4.full 1 _ rfl;have c2:=h4.full 2 _ rfl;have c3:=h4.full 3 _ rfl;have c4:=h4.full 4 _ rfl;have c5:=h4.full 5 _ rfl;rw [Nat.zero_add] at c0 c1 c2 c3 c4 c5;replace h4:=Hd h4;clear h2
 go_enter Tryz.func75,Tryz.ntmps75
 go_upto_region 2 with fail
 rw [<-hW2.out];clear hW2;go_wp2_with fail
 refine (hck.out _).mono ?_;rintro e w5 ⟨rfl,hb⟩;have h3:=h4.out.move hb;clear hb y0 y1 y2 y3 y4 y5 c0 c1 c2 c3 c4 c5 z;obtain ⟨w3,hw3⟩:∃w3,w3=w5:=⟨_,rfl⟩;rw [<-hw3] at h3 ⊢;replace hw3:=Hd hw3;have hrR:(w3.setCells w.heap.size 0 [.int .i64 8,.string (⟨#[]⟩:ByteArray),.int .i64 0,.float .f64 0,.bool false,.slice none 0 0]).rangeAt w.heap.size 0 [.int .i64 8,.string (⟨#[]⟩:ByteArray),.int .i64 0,.float .f64 0,.bool false,.slice none 0 0]:=
   World.rangeAt_setCells_same _ _ _ _ (Ae (n:=6) h3.zero h3.blk rfl)
 have htC:=Ae (n:=6) h3.zero h3.blk rfl;have hfu:=h3.full;have hbl:Below w.heap.size w (w3.setCells w.heap.size 0 [.int .i64 8,.string (⟨#[]⟩:ByteArray),.int .i64 0,.float .f64 0,.bool false,.slice none 0 0]):=
   h3.below.trans ((Fr.setCells (S:=fun k=>k=w.heap.size) (fun _=>rfl) _ _ _ (Fr.refl _ w3)).below h3.below.size (fun i hi h=>by omega))
 replace hrR:=Hd hrR;replace htC:=Hd htC;replace hfu:=Hd hfu;replace hbl:=Hd hbl;replace h3:=Hd h3
 go_wp2_with (first
   | (refine wpList_load_mid rfl 26 _ rfl (w.heap.size+1) 0 rfl _ _ hfu.out Tryz.underlying26 rfl Ab ?_)
   | (refine wpList_store_mid rfl 26 _ _ rfl w.heap.size 0 _ rfl rfl htC.out Ab (one6 _ _ _ _ _ _ _ _) ?_))
 refine bodyPost_ret (Ar (v:=.agg #[.int .i64 8,.string (⟨#[]⟩:ByteArray),.int .i64 0,.float .f64 0,.bool false,.slice none 0 0]) rfl rfl (run_loadVar_mid (P:=Tryz.prog) _ _ 0 26 _ _ hrR.out Tryz.underlying26 rfl Ab)) rfl ?_;exact ⟨Df (Dh false),hbl.out⟩
set_option maxRecDepth 100000 in
set_option maxHeartbeats 3200000 in
theorem sing_8no {w:World} {t:ByteArray} (h1:t≠⟨#[116]⟩) (h2' : t≠⟨#[102]⟩):Calls Tryz.prog 75 #[.int .i64 8,.string t] w (Fb none w):=by
 have j1:(t.toList == [116])=false:=beq_eq_false_iff_ne.2 fun e=>h1 (by rw [ByteArray.toList_eq] at e;exact ByteArray.ext (Array.toList_inj.1 e));have j2:(t.toList == [102])=false:=beq_eq_false_iff_ne.2 fun e=>h2' (by rw [ByteArray.toList_eq] at e;exact ByteArray.ext (Array.toList_inj.1 e));have j3:(t.toList != [116])=true:=by simp [bne,j1]
 have j4:(t.toList != [102])=true:=by simp [bne,j2]
 replace h1:=Hd h1;replace h2' := Hd h2';have h2:=Two.start w 8 ⟨#[]⟩ 0 0 false;obtain ⟨W2,hW2⟩:∃W,W=(w.alloc (.cells #[.int .i64 0,.string ⟨#[]⟩,.int .i64 0,.float .f64 0,.bool false,.slice none 0 0] 26)).alloc (.cells #[.int .i64 8,.string ⟨#[]⟩,.int .i64 0,.float .f64 0,.bool false,.slice none 0 0] 26):=⟨_,rfl⟩;rw [<-hW2] at h2;replace hW2:=Hd hW2;have z:=h2.blk1.frz 4 none;have y0:=h2.full 0 _ rfl;have y1:=h2.full 1 _ rfl;have y2:=h2.full 2 _ rfl;have y3:=h2.full 3 _ rfl;have y4:=h2.full 4 _ rfl;have y5:=h2.full 5 _ rfl;rw [Nat.zero_add] at y0 y1 y2 y3 y4 y5;have h4:=h2.set4 false;have c0:=h4.full 0 _ rfl;have c1:=h4.full 1 _ rfl;have c2:=h4.full 2 _ rfl;have c3:=h4.full 3 _ rfl;have c4:=h4.full 4 _ rfl;have c5:=h4.full 5 _ rfl;rw [Nat.zero_add] at c0 c1 c2 c3 c4 c5;replace h4:=Hd h4;clear h2
 go_enter Tryz.func75,Tryz.ntmps75
 go_upto_region 2 with fail
 rw [<-hW2.out];clear hW2;go_upto_region 19 with fail
 obtain ⟨w4,hw4⟩:∃x,x=W2.setCell ⟨w.heap.size+1,4,none⟩ (.bool false):=⟨_,rfl⟩;rw [<-hw4] at h4 c0 c1 c2 c3 c4 c5 ⊢;replace hw4:=Hd hw4;have h3:=h4.out;clear y0 y1 y2 y3 y4 y5 c0 c1 c2 c3 c4 c5 z;have hrR:(w4.setCells w.heap.size 0 [.int .i64 0,.string (⟨#[]⟩:ByteArray),.int .i64 0,.float .f64 0,.bool false,.slice none 0 0]).rangeAt w.heap.size 0 [.int .i64 0,.string (⟨#[]⟩:ByteArray),.int .i64 0,.float .f64 0,.bool false,.slice none 0 0]:=
   World.rangeAt_setCells_same _ _ _ _ (Ae (n:=6) h3.zero h3.blk rfl)
 have htC:=Ae (n:=6) h3.zero h3.blk rfl;have hfu:=h3.full;have hbl:Below w.heap.size w (w4.setCells w.heap.size 0 [.int .i64 0,.string (⟨#[]⟩:ByteArray),.int .i64 0,.float .f64 0,.bool false,.slice none 0 0]):=
   h3.below.trans ((Fr.setCells (S:=fun k=>k=w.heap.size) (fun _=>rfl) _ _ _ (Fr.refl _ w4)).below h3.below.size (fun i hi h=>by omega))
 replace hrR:=Hd hrR;replace htC:=Hd htC;replace hfu:=Hd hfu;replace hbl:=Hd hbl;replace h3:=Hd h3
 go_wp2_with (first
   | (refine wpList_load_mid rfl 26 _ rfl (w.heap.size+1) 0 rfl _ _ hfu.out Tryz.underlying26 rfl Ab ?_)
   | (refine wpList_store_mid rfl 26 _ _ rfl w.heap.size 0 _ rfl rfl htC.out Ab (one6 _ _ _ _ _ _ _ _) ?_))
 refine bodyPost_ret (Ar (v:=.agg #[.int .i64 0,.string (⟨#[]⟩:ByteArray),.int .i64 0,.float .f64 0,.bool false,.slice none 0 0]) rfl rfl (run_loadVar_mid (P:=Tryz.prog) _ _ 0 26 _ _ hrR.out Tryz.underlying26 rfl Ab)) rfl ?_;exact ⟨rfl,hbl.out⟩
set_option maxRecDepth 100000 in
set_option maxHeartbeats 3200000 in
theorem sing_6 {w:World}:Calls Tryz.prog 75 #[.int .i64 6,.string ⟨#[]⟩] w (Fb (some (Ao 6 ⟨#[]⟩ 0 0 false)) w):=by
 have hck:=Ci 6 ⟨#[]⟩ 0 0 false (by decide) (by decide);rw [E5] at hck;replace hck:=Hd hck;have h2:=Two.start w 6 ⟨#[]⟩ 0 0 false;obtain ⟨W2,hW2⟩:∃W,W=(w.alloc (.cells #[.int .i64 0,.string ⟨#[]⟩,.int .i64 0,.float .f64 0,.bool false,.slice none 0 0] 26)).alloc (.cells #[.int .i64 6,.string ⟨#[]⟩,.int .i64 0,.float .f64 0,.bool false,.slice none 0 0] 26):=⟨_,rfl⟩;rw [<-hW2] at h2;replace hW2:=Hd hW2;have c0:=h2.full 0 _ rfl;have c1:=h2.full 1 _ rfl;have c2:=h2.full 2 _ rfl;have c3:=h2.full 3 _ rfl;have c4:=h2.full 4 _ rfl;have c5:=h2.full 5 _ rfl;rw [Nat.zero_add] at c0 c1 c2 c3 c4 c5;replace h2:=Hd h2
 go_enter Tryz.func75,Tryz.ntmps75
 go_upto_region 2 with fail
 rw [<-hW2.out];clear hW2;go_wp2_with fail
 refine (hck.out _).mono ?_;rintro e w3 ⟨rfl,hb⟩;have h3:=h2.out.move hb;clear hb c0 c1 c2 c3 c4 c5;have hrR:(w3.setCells w.heap.size 0 [.int .i64 6,.string (⟨#[]⟩:ByteArray),.int .i64 0,.float .f64 0,.bool false,.slice none 0 0]).rangeAt w.heap.size 0 [.int .i64 6,.string (⟨#[]⟩:ByteArray),.int .i64 0,.float .f64 0,.bool false,.slice none 0 0]:=
   World.rangeAt_setCells_same _ _ _ _ (Ae (n:=6) h3.zero h3.blk rfl)
 have htC:=Ae (n:=6) h3.zero h3.blk rfl;have hfu:=h3.full;have hbl:Below w.heap.size w (w3.setCells w.heap.size 0 [.int .i64 6,.string (⟨#[]⟩:ByteArray),.int .i64 0,.float .f64 0,.bool false,.slice none 0 0]):=
   h3.below.trans ((Fr.setCells (S:=fun k=>k=w.heap.size) (fun _=>rfl) _ _ _ (Fr.refl _ w3)).below h3.below.size (fun i hi h=>by omega))
 replace hrR:=Hd hrR;replace htC:=Hd htC;replace hfu:=Hd hfu;replace hbl:=Hd hbl;replace h3:=Hd h3
 go_wp2_with (first
   | (refine wpList_load_mid rfl 26 _ rfl (w.heap.size+1) 0 rfl _ _ hfu.out Tryz.underlying26 rfl Ab ?_)
   | (refine wpList_store_mid rfl 26 _ _ rfl w.heap.size 0 _ rfl rfl htC.out Ab (one6 _ _ _ _ _ _ _ _) ?_))
 refine bodyPost_ret (Ar (v:=.agg #[.int .i64 6,.string (⟨#[]⟩:ByteArray),.int .i64 0,.float .f64 0,.bool false,.slice none 0 0]) rfl rfl (run_loadVar_mid (P:=Tryz.prog) _ _ 0 26 _ _ hrR.out Tryz.underlying26 rfl Ab)) rfl ?_;exact ⟨Df E5,hbl.out⟩
set_option maxRecDepth 100000 in
set_option maxHeartbeats 3200000 in
theorem sing_6no {w:World} {t:ByteArray} (h1:t≠⟨#[]⟩):Calls Tryz.prog 75 #[.int .i64 6,.string t] w (Fb none w):=by
 have j0:¬t.toList=[]:=fun e=>h1 (by rw [ByteArray.toList_eq] at e;exact ByteArray.ext (Array.toList_inj.1 e));have j1:(t.toList == [])=false:=beq_eq_false_iff_ne.2 j0;have j3:(t.toList != [])=true:=by simp [bne,j1]
 have j4:t.toList.isEmpty=false:=by cases hh:t.toList.isEmpty with | false=>rfl | true=>exact absurd (List.isEmpty_iff.1 hh) j0
 replace h1:=Hd h1;have h2:=Two.start w 6 ⟨#[]⟩ 0 0 false;obtain ⟨W2,hW2⟩:∃W,W=(w.alloc (.cells #[.int .i64 0,.string ⟨#[]⟩,.int .i64 0,.float .f64 0,.bool false,.slice none 0 0] 26)).alloc (.cells #[.int .i64 6,.string ⟨#[]⟩,.int .i64 0,.float .f64 0,.bool false,.slice none 0 0] 26):=⟨_,rfl⟩;rw [<-hW2] at h2;replace hW2:=Hd hW2;replace h2:=Hd h2
 go_enter Tryz.func75,Tryz.ntmps75
 go_upto_region 2 with fail
 rw [<-hW2.out];clear hW2;go_upto_region 19 with fail
 have h3:=h2.out;have hrR:(W2.setCells w.heap.size 0 [.int .i64 0,.string (⟨#[]⟩:ByteArray),.int .i64 0,.float .f64 0,.bool false,.slice none 0 0]).rangeAt w.heap.size 0 [.int .i64 0,.string (⟨#[]⟩:ByteArray),.int .i64 0,.float .f64 0,.bool false,.slice none 0 0]:=
   World.rangeAt_setCells_same _ _ _ _ (Ae (n:=6) h3.zero h3.blk rfl)
 have htC:=Ae (n:=6) h3.zero h3.blk rfl;have hfu:=h3.full;have hbl:Below w.heap.size w (W2.setCells w.heap.size 0 [.int .i64 0,.string (⟨#[]⟩:ByteArray),.int .i64 0,.float .f64 0,.bool false,.slice none 0 0]):=
   h3.below.trans ((Fr.setCells (S:=fun k=>k=w.heap.size) (fun _=>rfl) _ _ _ (Fr.refl _ W2)).below h3.below.size (fun i hi h=>by omega))
 replace hrR:=Hd hrR;replace htC:=Hd htC;replace hfu:=Hd hfu;replace hbl:=Hd hbl;replace h3:=Hd h3
 go_wp2_with (first
   | (refine wpList_load_mid rfl 26 _ rfl (w.heap.size+1) 0 rfl _ _ hfu.out Tryz.underlying26 rfl Ab ?_)
   | (refine wpList_store_mid rfl 26 _ _ rfl w.heap.size 0 _ rfl rfl htC.out Ab (one6 _ _ _ _ _ _ _ _) ?_))
 refine bodyPost_ret (Ar (v:=.agg #[.int .i64 0,.string (⟨#[]⟩:ByteArray),.int .i64 0,.float .f64 0,.bool false,.slice none 0 0]) rfl rfl (run_loadVar_mid (P:=Tryz.prog) _ _ 0 26 _ _ hrR.out Tryz.underlying26 rfl Ab)) rfl ?_;exact ⟨rfl,hbl.out⟩
theorem sing_any {w:World} {k:Nat} {t:ByteArray} {o:Option Nat} (hk:k=1\/k=2\/k=9\/k=3\/k=7\/k=8\/k=6) (ht:t.size<=1000000) (hp:k=7->∀W,Below w.heap.size w W->Calls Tryz.prog 92 #[.string t] W fun e w' => e=ParE o/\Below W.heap.size W w') :
   Calls Tryz.prog 75 #[.int .i64 (k:Int),.string t] w (Fb (Cd o k t) w):=by
 unfold Cd
 rcases hk with rfl | rfl | rfl | rfl | rfl | rfl | rfl
 · exact sing_1 ht
 · exact sing_2 ht
 · exact sing_9 ht
 · exact sing_3 ht
 · exact sing_7 (hp rfl)
 · rw [if_neg (by decide),if_neg (by decide),if_neg (by decide),if_pos (by decide)]
   by_cases h1:t=⟨#[116]⟩
   · rw [if_pos h1,h1];exact sing_t
   · rw [if_neg h1]
     by_cases h2:t=⟨#[102]⟩
     · rw [if_pos h2,h2];exact sing_f
     · rw [if_neg h2];exact sing_8no h1 h2
 · rw [if_neg (by decide),if_neg (by decide),if_neg (by decide),if_neg (by decide)]
   by_cases h1:t=⟨#[]⟩
   · rw [if_pos h1,h1];exact sing_6
   · rw [if_neg h1];exact sing_6no h1
end Go.Proofs.YtagkgfniihiinaaGreatDoor
