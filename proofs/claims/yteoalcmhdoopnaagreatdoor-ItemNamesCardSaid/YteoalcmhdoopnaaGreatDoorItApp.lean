/- item.Append, the document's Append; fits. -/
import Derived.Test.YteoalcmhdoopnaaGreatDoorItRPut
namespace Go.Proofs.YteoalcmhdoopnaaGreatDoor
open Go.RowKit
set_option maxRecDepth 100000 in
set_option maxHeartbeats 3200000 in
theorem iappend_big (k:Int) (hk:k≠2) (t:ByteArray) (a:Option Addr) (n cap:Nat) (s:ByteArray) (w:World) (ht:t.size<=4096) (hbig:4096<t.size+s.size) :
   Calls Tryz.prog 19 #[.agg #[.int .i64 k,.string t,.slice a n cap],.string s] w fun e w' => e=.returned (.tuple #[.agg #[.int .i64 k,.string t,.slice a n cap],.int .i64 94])/\Below w.heap.size w w' := by
 have hk2:(k == 2)=false:=by simpa using hk
 replace hk:=Hd hk
 have h1:(t.size:Int)<=4096:=by omega
 have h2:IntKind.i64.wrap (4096 - (t.size:Int))=4096 - (t.size:Int):=IntWalk.i64_in _ (by omega)
 have h3:4096 - (t.size:Int)<(s.size:Int):=by omega
 have h4:min (t.size:Int) 4096=(t.size:Int):=by omega
 obtain ⟨W2,hW2⟩:∃W2,W2=(w.alloc (.cells #[.int .i64 k,.string t,.slice a n cap] 24)).alloc (.cells #[.int .i64 0,.string ⟨#[]⟩,.slice none 0 0] 24):=⟨_,rfl⟩
 have hb2:Below w.heap.size w W2:=by rw [hW2];exact ((Below.refl _ _).alloc (Nat.le_refl _) _).alloc (by simp) _
 have hs2:W2.heap.size=w.heap.size+2:=by rw [hW2];simp
 have hB:∀q u,#[.int .i64 k,.string t,.slice a n cap][q]?=some u->W2.cell? ⟨w.heap.size,q,none⟩=some u:=fun q u h=>by rw [hW2,World.cell?_alloc_past _ _ _ (by simp),World.cell?_alloc_new];exact h
 have hC:∀q u,#[.int .i64 0,.string ⟨#[]⟩,.slice none 0 0][q]?=some u->W2.cell? ⟨w.heap.size+1,q,none⟩=some u:=fun q u h=>by
   rw [hW2,show w.heap.size+1=(w.alloc (.cells #[.int .i64 k,.string t,.slice a n cap] 24)).heap.size by simp,World.cell?_alloc_new];exact h
 have hfC:Blk W2 (w.heap.size+1):=by rw [hW2,show w.heap.size+1=(w.alloc (.cells #[.int .i64 k,.string t,.slice a n cap] 24)).heap.size by simp];exact Blk.new _ _ _
 have g0:W2.cell? ⟨w.heap.size,0,none⟩=some (.int .i64 k):=hB 0 _ rfl
 have g1:W2.cell? ⟨w.heap.size,1,none⟩=some (.string t):=hB 1 _ rfl
 have g2:W2.cell? ⟨w.heap.size,2,none⟩=some (.slice a n cap):=hB 2 _ rfl
 have i0:W2.cell? ⟨w.heap.size+1,0,none⟩=some (.int .i64 0):=hC 0 _ rfl
 have i1:W2.cell? ⟨w.heap.size+1,1,none⟩=some (.string ⟨#[]⟩):=hC 1 _ rfl
 have i2:W2.cell? ⟨w.heap.size+1,2,none⟩=some (.slice none 0 0):=hC 2 _ rfl
 have y0:=hfC.frz 0 none
 have y1:=hfC.frz 1 none
 have y2:=hfC.frz 2 none
 replace hW2:=Hd hW2
 clear hB hC
 have hfin:=set3 hb2
 replace hfin:=Hd hfin
 go_enter Tryz.func19,Tryz.ntmps19
 go_upto_region 1 with fail
 rw [<-hW2.out]
 go_wp2_with fail
 refine bodyPost_ret (v:=.tuple #[.agg #[.int .i64 k,.string t,.slice a n cap],.int .i64 94]) (by simp [results,Tryz.results19,go_sem,i0,i1,i2]) rfl ⟨rfl,hfin.out _ _ _⟩
end Go.Proofs.YteoalcmhdoopnaaGreatDoor
