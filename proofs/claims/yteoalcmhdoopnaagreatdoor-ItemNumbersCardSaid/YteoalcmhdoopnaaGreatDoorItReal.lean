/- item.counts, item.AddReal. -/
import Derived.Test.YteoalcmhdoopnaaGreatDoorJ23
import Derived.Test.YteoalcmhdoopnaaGreatDoorRSums
import Derived.Test.YteoalcmhdoopnaaGreatDoorRTxt
namespace Go.Proofs.YteoalcmhdoopnaaGreatDoor
open Go.RowKit
theorem Cl {r:Nat} (h:r<18446744073709551616) (w:World):Calls Tryz.prog 31 #[.float .f64 r] w fun e w' => e=.returned (.bool (!badF r))/\w' = w:=by
 have h1:=isNaN_any h;cases hn:nanF r with
 | true=>
   have hb:badF r=true:=by unfold badF;rw [hn];rfl
   rw [hn] at h1;rw [hb];clear hb hn;replace h1:=Hd h1
   go_enter Tryz.func31,Tryz.ntmps31
   go_wp2_with fail
   refine (h1.out _).mono ?_;rintro e w' ⟨rfl,rfl⟩;go_wp2_with fail
   go_ret;exact ⟨rfl,rfl⟩
 | false=>
   have h2:=isInf_any h hn;have hb:badF r=decide (r % 9223372036854775808=9218868437227405312):=by unfold badF;rw [hn];rfl
   rw [hn] at h1;rw [hb];generalize decide (r % 9223372036854775808=9218868437227405312)=D at *;clear hb hn;replace h1:=Hd h1;replace h2:=Hd h2
   go_enter Tryz.func31,Tryz.ntmps31
   go_wp2_with fail
   refine (h1.out _).mono ?_;rintro e w' ⟨rfl,rfl⟩;go_wp2_with fail
   refine (h2.out _).mono ?_;rintro e w' ⟨rfl,rfl⟩;cases D
   all_goals
     go_wp2_with fail
     go_ret
     exact ⟨rfl,rfl⟩
set_option maxRecDepth 100000 in
set_option maxHeartbeats 3200000 in
theorem areal_wild (t:ByteArray) (a:Option Addr) (n cap:Nat) (r y:Nat) (w:World) (hr:r<18446744073709551616) (hb:badF r=true) (hpar:∀W,Below w.heap.size w W->Calls Tryz.prog 30 #[.string t] W fun e w' => e=.returned (.tuple #[.float .f64 r,.int .i64 0])/\Below W.heap.size W w') :
   Calls Tryz.prog 12 #[.agg #[.int .i64 1,.string t,.slice a n cap],.float .f64 y] w fun e w' => e=.returned (.tuple #[.agg #[.int .i64 1,.string t,.slice a n cap],.string ⟨#[]⟩,.int .i64 93])/\Below w.heap.size w w' := by
 obtain ⟨k,hk⟩:∃k:Int,k=1:=⟨1,rfl⟩
 rw [<-hk]
 obtain ⟨W2,hW2⟩:∃W2,W2=(w.alloc (.cells #[.int .i64 k,.string t,.slice a n cap] 24)).alloc (.cells #[.int .i64 0,.string ⟨#[]⟩,.slice none 0 0] 24):=⟨_,rfl⟩
 have hb2:Below w.heap.size w W2:=by rw [hW2];exact ((Below.refl _ _).alloc (Nat.le_refl _) _).alloc (by simp) _
 have hs2:W2.heap.size=w.heap.size+2:=by rw [hW2];simp
 have hB:∀q u,#[.int .i64 k,.string t,.slice a n cap][q]?=some u->W2.cell? ⟨w.heap.size,q,none⟩=some u:=fun q u h=>by rw [hW2,World.cell?_alloc_past _ _ _ (by simp),World.cell?_alloc_new];exact h
 have hC:∀q u,#[.int .i64 0,.string ⟨#[]⟩,.slice none 0 0][q]?=some u->W2.cell? ⟨w.heap.size+1,q,none⟩=some u:=fun q u h=>by
   rw [hW2,show w.heap.size+1=(w.alloc (.cells #[.int .i64 k,.string t,.slice a n cap] 24)).heap.size by simp,World.cell?_alloc_new];exact h
 have hfC:Blk W2 (w.heap.size+1):=by rw [hW2,show w.heap.size+1=(w.alloc (.cells #[.int .i64 k,.string t,.slice a n cap] 24)).heap.size by simp];exact Blk.new _ _ _
 have g0:W2.cell? ⟨w.heap.size,0,none⟩=some (.int .i64 k):=hB 0 _ rfl
 have g1:W2.cell? ⟨w.heap.size,1,none⟩=some (.string t):=hB 1 _ rfl
 have g2:W2.cell? ⟨w.heap.size,2,none⟩=some (.slice a n cap):=hB 2 _ rfl
 have i0:W2.cell? ⟨w.heap.size+1,0,none⟩=some (.int .i64 0):=hC 0 _ rfl
 have i1:W2.cell? ⟨w.heap.size+1,1,none⟩=some (.string ⟨#[]⟩):=hC 1 _ rfl
 have i2:W2.cell? ⟨w.heap.size+1,2,none⟩=some (.slice none 0 0):=hC 2 _ rfl
 have y0:=hfC.frz 0 none
 have y1:=hfC.frz 1 none
 have y2:=hfC.frz 2 none
 replace hW2:=Hd hW2
 clear hB hC
 subst hk
 have hpw:=hpar W2 hb2
 have hcn:=Cl hr
 rw [hb] at hcn
 replace hpw:=Hd hpw
 replace hcn:=Hd hcn
 clear hb hpar hr
 go_enter Tryz.func12,Tryz.ntmps12
 go_upto_region 2 with fail
 rw [<-hW2.out]
 go_wp2_with fail
 refine hpw.out.mono ?_
 rintro e w3 ⟨rfl,hb3⟩
 replace g0:=Aa hb3 g0
 replace g1:=Aa hb3 g1
 replace g2:=Aa hb3 g2
 replace i0:=Aa hb3 i0
 replace i1:=Aa hb3 i1
 replace i2:=Aa hb3 i2
 replace hfC:=hfC.of_block (hb3.block _ hfC.lt)
 clear y0 y1 y2
 have y0:=hfC.frz 0 none
 have y1:=hfC.frz 1 none
 have y2:=hfC.frz 2 none
 have hbel:=hb2.trans (hb3.mono hb2.size)
 have hfin:=set3 hbel
 replace hfin:=Hd hfin
 go_wp2_with fail
 refine (hcn.out _).mono ?_
 rintro e w4 ⟨rfl,hww⟩
 obtain rfl:=hww.symm
 clear hww
 go_wp2_with fail
 refine bodyPost_ret (v:=.tuple #[.agg #[.int .i64 1,.string t,.slice a n cap],.string ⟨#[]⟩,.int .i64 93]) (by simp [results,Tryz.results12,go_sem,i0,i1,i2]) rfl ⟨rfl,hfin.out _ _ _⟩
end Go.Proofs.YteoalcmhdoopnaaGreatDoor
