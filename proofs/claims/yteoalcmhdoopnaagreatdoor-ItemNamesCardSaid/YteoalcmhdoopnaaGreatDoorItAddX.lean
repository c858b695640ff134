/- item.Add where nothing is added: a hash, a text that is no whole number, a sum that is too great. -/
import Derived.Test.YteoalcmhdoopnaaGreatDoorItAdd
namespace Go.Proofs.YteoalcmhdoopnaaGreatDoor
open Go.RowKit
def AddErr (er:Int) (w:World) (e:Ending) (w' : World):Prop:=∃(k1:Int) (t1:ByteArray) (a1:Option Addr) (n1 c1:Nat),e=.returned (.tuple #[.agg #[.int .i64 k1,.string t1,.slice a1 n1 c1],.int .i64 0,.int .i64 er])/\Below w.heap.size w w'
set_option maxRecDepth 100000 in
set_option maxHeartbeats 3200000 in
theorem iadd_hashE (t:ByteArray) (a:Option Addr) (n cap:Nat) (fs:List Fld) (v:Int) (w:World) (hr:RF w a n cap fs) (hn:n<=100000) :
   Calls Tryz.prog 10 #[.agg #[.int .i64 2,.string t,.slice a n cap],.int .i64 v] w (AddErr 91 w):=by
 obtain ⟨k,hk⟩:∃k:Int,k=2:=⟨2,rfl⟩
 rw [<-hk]
 obtain ⟨W2,hW2⟩:∃W2,W2=(w.alloc (.cells #[.int .i64 k,.string t,.slice a n cap] 24)).alloc (.cells #[.int .i64 0,.string ⟨#[]⟩,.slice none 0 0] 24):=⟨_,rfl⟩
 have hb2:Below w.heap.size w W2:=by rw [hW2];exact ((Below.refl _ _).alloc (Nat.le_refl _) _).alloc (by simp) _
 have hs2:W2.heap.size=w.heap.size+2:=by rw [hW2];simp
 have hB:∀q u,#[.int .i64 k,.string t,.slice a n cap][q]?=some u->W2.cell? ⟨w.heap.size,q,none⟩=some u:=fun q u h=>by rw [hW2,World.cell?_alloc_past _ _ _ (by simp),World.cell?_alloc_new];exact h
 have hC:∀q u,#[.int .i64 0,.string ⟨#[]⟩,.slice none 0 0][q]?=some u->W2.cell? ⟨w.heap.size+1,q,none⟩=some u:=fun q u h=>by
   rw [hW2,show w.heap.size+1=(w.alloc (.cells #[.int .i64 k,.string t,.slice a n cap] 24)).heap.size by simp,World.cell?_alloc_new];exact h
 have hfC:Blk W2 (w.heap.size+1):=by rw [hW2,show w.heap.size+1=(w.alloc (.cells #[.int .i64 k,.string t,.slice a n cap] 24)).heap.size by simp];exact Blk.new _ _ _
 have g0:W2.cell? ⟨w.heap.size,0,none⟩=some (.int .i64 k):=hB 0 _ rfl
 have g1:W2.cell? ⟨w.heap.size,1,none⟩=some (.string t):=hB 1 _ rfl
 have g2:W2.cell? ⟨w.heap.size,2,none⟩=some (.slice a n cap):=hB 2 _ rfl
 have i0:W2.cell? ⟨w.heap.size+1,0,none⟩=some (.int .i64 0):=hC 0 _ rfl
 have i1:W2.cell? ⟨w.heap.size+1,1,none⟩=some (.string ⟨#[]⟩):=hC 1 _ rfl
 have i2:W2.cell? ⟨w.heap.size+1,2,none⟩=some (.slice none 0 0):=hC 2 _ rfl
 have y0:=hfC.frz 0 none
 have y1:=hfC.frz 1 none
 have y2:=hfC.frz 2 none
 replace hW2:=Hd hW2
 clear hB hC
 subst hk
 have hr2:=hr.below hb2
 replace hr2:=Hd hr2
 clear hr
 go_enter Tryz.func10,Tryz.ntmps10
 go_upto_region 2 with fail
 rw [<-hW2.out]
 go_wp2_with fail
 refine (icopy_any 2 t a n cap fs _ hr2.out hn).mono ?_
 rintro e w3 ⟨a3,c3,rfl,hown,hb3⟩
 obtain ⟨a4,c4,he4⟩:=(Reads.of_owns hown).shape
 replace g0:=Aa hb3 g0
 replace g1:=Aa hb3 g1
 replace g2:=Aa hb3 g2
 replace i0:=Aa hb3 i0
 replace i1:=Aa hb3 i1
 replace i2:=Aa hb3 i2
 replace hfC:=hfC.of_block (hb3.block _ hfC.lt)
 clear y0 y1 y2
 have y0:=hfC.frz 0 none
 have y1:=hfC.frz 1 none
 have y2:=hfC.frz 2 none
 have hbel:=hb2.trans (hb3.mono hb2.size)
 have hfin:=set3 hbel
 replace hfin:=Hd hfin
 clear hown he4
 go_wp2_with fail
 refine bodyPost_ret (v:=.tuple #[.agg #[.int .i64 2,.string t,.slice a3 n c3],.int .i64 0,.int .i64 91]) (by simp [results,Tryz.results10,go_sem,i0,i1,i2]) rfl ⟨2,t,a3,n,c3,rfl,hfin.out _ _ _⟩
set_option maxRecDepth 100000 in
set_option maxHeartbeats 3200000 in
theorem iadd_noneE (t:ByteArray) (a:Option Addr) (n cap:Nat) (v:Int) (w:World) (hw:wP t.data.toList=none) (ht:t.size<=1000000) (hN:Nums w) :
   Calls Tryz.prog 10 #[.agg #[.int .i64 1,.string t,.slice a n cap],.int .i64 v] w (AddErr 92 w):=by
 obtain ⟨k,hk⟩:∃k:Int,k=1:=⟨1,rfl⟩
 rw [<-hk]
 obtain ⟨W2,hW2⟩:∃W2,W2=(w.alloc (.cells #[.int .i64 k,.string t,.slice a n cap] 24)).alloc (.cells #[.int .i64 0,.string ⟨#[]⟩,.slice none 0 0] 24):=⟨_,rfl⟩
 have hb2:Below w.heap.size w W2:=by rw [hW2];exact ((Below.refl _ _).alloc (Nat.le_refl _) _).alloc (by simp) _
 have hs2:W2.heap.size=w.heap.size+2:=by rw [hW2];simp
 have hB:∀q u,#[.int .i64 k,.string t,.slice a n cap][q]?=some u->W2.cell? ⟨w.heap.size,q,none⟩=some u:=fun q u h=>by rw [hW2,World.cell?_alloc_past _ _ _ (by simp),World.cell?_alloc_new];exact h
 have hC:∀q u,#[.int .i64 0,.string ⟨#[]⟩,.slice none 0 0][q]?=some u->W2.cell? ⟨w.heap.size+1,q,none⟩=some u:=fun q u h=>by
   rw [hW2,show w.heap.size+1=(w.alloc (.cells #[.int .i64 k,.string t,.slice a n cap] 24)).heap.size by simp,World.cell?_alloc_new];exact h
 have hfC:Blk W2 (w.heap.size+1):=by rw [hW2,show w.heap.size+1=(w.alloc (.cells #[.int .i64 k,.string t,.slice a n cap] 24)).heap.size by simp];exact Blk.new _ _ _
 have g0:W2.cell? ⟨w.heap.size,0,none⟩=some (.int .i64 k):=hB 0 _ rfl
 have g1:W2.cell? ⟨w.heap.size,1,none⟩=some (.string t):=hB 1 _ rfl
 have g2:W2.cell? ⟨w.heap.size,2,none⟩=some (.slice a n cap):=hB 2 _ rfl
 have i0:W2.cell? ⟨w.heap.size+1,0,none⟩=some (.int .i64 0):=hC 0 _ rfl
 have i1:W2.cell? ⟨w.heap.size+1,1,none⟩=some (.string ⟨#[]⟩):=hC 1 _ rfl
 have i2:W2.cell? ⟨w.heap.size+1,2,none⟩=some (.slice none 0 0):=hC 2 _ rfl
 have y0:=hfC.frz 0 none
 have y1:=hfC.frz 1 none
 have y2:=hfC.frz 2 none
 replace hW2:=Hd hW2
 clear hB hC
 subst hk
 have hN2:=hN.below hb2
 replace hN2:=Hd hN2
 have hpar:∀W,Nums W->Calls Tryz.prog 23 #[.string t] W fun e w' => e=.returned (.tuple #[.int .i64 0,.int .i64 11])/\Below W.heap.size W w' := fun W h=>(A1 t (by omega) W h).mono fun e w' ⟨he,hb⟩=>⟨by rw [hw] at he;exact he,hb⟩
 replace hpar:=Hd hpar
 clear hN hw
 go_enter Tryz.func10,Tryz.ntmps10
 go_upto_region 2 with fail
 rw [<-hW2.out]
 go_wp2_with fail
 refine (hpar.out _ hN2.out).mono ?_
 rintro e w3 ⟨rfl,hb3⟩
 replace g0:=Aa hb3 g0
 replace g1:=Aa hb3 g1
 replace g2:=Aa hb3 g2
 replace i0:=Aa hb3 i0
 replace i1:=Aa hb3 i1
 replace i2:=Aa hb3 i2
 replace hfC:=hfC.of_block (hb3.block _ hfC.lt)
 clear y0 y1 y2
 have y0:=hfC.frz 0 none
 have y1:=hfC.frz 1 none
 have y2:=hfC.frz 2 none
 have hbel:=hb2.trans (hb3.mono hb2.size)
 have hfin:=set3 hbel
 replace hfin:=Hd hfin
 go_wp2_with fail
 refine bodyPost_ret (v:=.tuple #[.agg #[.int .i64 1,.string t,.slice a n cap],.int .i64 0,.int .i64 92]) (by simp [results,Tryz.results10,go_sem,i0,i1,i2]) rfl ⟨1,t,a,n,cap,rfl,hfin.out _ _ _⟩
end Go.Proofs.YteoalcmhdoopnaaGreatDoor
