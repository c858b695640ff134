/- item.AddReal, all ways. -/
import Derived.Test.YteoalcmhdoopnaaGreatDoorItReal
import Derived.Test.YteoalcmhdoopnaaGreatDoorJ23
import Derived.Test.YteoalcmhdoopnaaGreatDoorParB
namespace Go.Proofs.YteoalcmhdoopnaaGreatDoor
open Go.RowKit
def sumV (a b:Nat):Nat:=(floatBits .add .f64 a b).getD nanC
theorem bad_nan:badF nanC=true:=by decide +kernel
theorem radd_all (a b:Nat) (w:World):Calls Tryz.prog 32 #[.float .f64 a,.float .f64 b] w fun e w' => e=.returned (.tuple #[.float .f64 (if badF (sumV a b) then 0 else sumV a b),.int .i64 (if badF (sumV a b) then 21 else 0)])/\Below w.heap.size w w' := by
 obtain ⟨r,w1,hr,hl,hb,hc⟩:=add_run a b w;refine (add_any hr hl).mono fun e w' ⟨h1,h2⟩=>⟨?_,by rw [h2];exact hb⟩;rcases hc with hc | ⟨hc,hn⟩
 · have:sumV a b=r:=by unfold sumV;rw [hc];rfl
   rw [this];exact h1
 · have e1:sumV a b=nanC:=by unfold sumV;rw [hc];rfl
   have e2:badF r=true:=by unfold badF;rw [hn];rfl
   rw [e1,bad_nan];rw [e2] at h1;exact h1
theorem sumV_lt (a b:Nat):sumV a b<18446744073709551616:=by
 unfold sumV;cases h:floatBits .add .f64 a b with
 | none=>decide
 | some r=>
   have:=floatBits_wf h;simpa [Lit.wf] using this
set_option maxRecDepth 100000 in
set_option maxHeartbeats 3200000 in
theorem areal_none (t:ByteArray) (a:Option Addr) (n cap:Nat) (y:Nat) (w:World) (hpar:∀W,Below w.heap.size w W->Calls Tryz.prog 30 #[.string t] W fun e w' => e=ParA none/\Below W.heap.size W w') :
   Calls Tryz.prog 12 #[.agg #[.int .i64 1,.string t,.slice a n cap],.float .f64 y] w fun e w' => e=.returned (.tuple #[.agg #[.int .i64 1,.string t,.slice a n cap],.string ⟨#[]⟩,.int .i64 93])/\Below w.heap.size w w' := by
 obtain ⟨k,hk⟩:∃k:Int,k=1:=⟨1,rfl⟩
 rw [<-hk]
 obtain ⟨W2,hW2⟩:∃W2,W2=(w.alloc (.cells #[.int .i64 k,.string t,.slice a n cap] 24)).alloc (.cells #[.int .i64 0,.string ⟨#[]⟩,.slice none 0 0] 24):=⟨_,rfl⟩
 have hb2:Below w.heap.size w W2:=by rw [hW2];exact ((Below.refl _ _).alloc (Nat.le_refl _) _).alloc (by simp) _
 have hs2:W2.heap.size=w.heap.size+2:=by rw [hW2];simp
 have hB:∀q u,#[.int .i64 k,.string t,.slice a n cap][q]?=some u->W2.cell? ⟨w.heap.size,q,none⟩=some u:=fun q u h=>by rw [hW2,World.cell?_alloc_past _ _ _ (by simp),World.cell?_alloc_new];exact h
 have hC:∀q u,#[.int .i64 0,.string ⟨#[]⟩,.slice none 0 0][q]?=some u->W2.cell? ⟨w.heap.size+1,q,none⟩=some u:=fun q u h=>by
   rw [hW2,show w.heap.size+1=(w.alloc (.cells #[.int .i64 k,.string t,.slice a n cap] 24)).heap.size by simp,World.cell?_alloc_new];exact h
 have hfC:Blk W2 (w.heap.size+1):=by rw [hW2,show w.heap.size+1=(w.alloc (.cells #[.int .i64 k,.string t,.slice a n cap] 24)).heap.size by simp];exact Blk.new _ _ _
 have g0:W2.cell? ⟨w.heap.size,0,none⟩=some (.int .i64 k):=hB 0 _ rfl
 have g1:W2.cell? ⟨w.heap.size,1,none⟩=some (.string t):=hB 1 _ rfl
 have g2:W2.cell? ⟨w.heap.size,2,none⟩=some (.slice a n cap):=hB 2 _ rfl
 have i0:W2.cell? ⟨w.heap.size+1,0,none⟩=some (.int .i64 0):=hC 0 _ rfl
 have i1:W2.cell? ⟨w.heap.size+1,1,none⟩=some (.string ⟨#[]⟩):=hC 1 _ rfl
 have i2:W2.cell? ⟨w.heap.size+1,2,none⟩=some (.slice none 0 0):=hC 2 _ rfl
 have y0:=hfC.frz 0 none
 have y1:=hfC.frz 1 none
 have y2:=hfC.frz 2 none
 replace hW2:=Hd hW2
 clear hB hC
 subst hk
 have hpw:=hpar W2 hb2
 replace hpw:=Hd hpw
 clear hpar
 go_enter Tryz.func12,Tryz.ntmps12
 go_upto_region 2 with fail
 rw [<-hW2.out]
 go_wp2_with fail
 refine hpw.out.mono ?_
 rintro e w3 ⟨rfl,hb3⟩
 replace g0:=Aa hb3 g0
 replace g1:=Aa hb3 g1
 replace g2:=Aa hb3 g2
 replace i0:=Aa hb3 i0
 replace i1:=Aa hb3 i1
 replace i2:=Aa hb3 i2
 replace hfC:=hfC.of_block (hb3.block _ hfC.lt)
 clear y0 y1 y2
 have y0:=hfC.frz 0 none
 have y1:=hfC.frz 1 none
 have y2:=hfC.frz 2 none
 have hbel:=hb2.trans (hb3.mono hb2.size)
 have hfin:=set3 hbel
 replace hfin:=Hd hfin
 unfold ParA
 go_wp2_with fail
 refine bodyPost_ret (v:=.tuple #[.agg #[.int .i64 1,.string t,.slice a n cap],.string ⟨#[]⟩,.int .i64 93]) (by simp [results,Tryz.results12,go_sem,i0,i1,i2]) rfl ⟨rfl,hfin.out _ _ _⟩
def Was (k:Int) (t:ByteArray) (r:Nat) (w:World):Prop:=(k=0/\r=0)\/(k=1/\∀W,Below w.heap.size w W->Calls Tryz.prog 30 #[.string t] W fun e w' => e=ParA (some r)/\Below W.heap.size W w')
set_option maxRecDepth 100000 in
set_option maxHeartbeats 6400000 in
theorem areal_f (k:Int) (t:ByteArray) (a:Option Addr) (n cap:Nat) (r y:Nat) (w:World) (hr:r<18446744073709551616) (hy:y<18446744073709551616) (hb:badF r=false) (hf:badF y=true) (hwas:Was k t r w) :
   Calls Tryz.prog 12 #[.agg #[.int .i64 k,.string t,.slice a n cap],.float .f64 y] w fun e w' => e=.returned (.tuple #[.agg #[.int .i64 k,.string t,.slice a n cap],.string ⟨#[]⟩,.int .i64 21])/\Below w.heap.size w w' := by
 obtain ⟨W2,hW2⟩:∃W2,W2=(w.alloc (.cells #[.int .i64 k,.string t,.slice a n cap] 24)).alloc (.cells #[.int .i64 0,.string ⟨#[]⟩,.slice none 0 0] 24):=⟨_,rfl⟩
 have hb2:Below w.heap.size w W2:=by rw [hW2];exact ((Below.refl _ _).alloc (Nat.le_refl _) _).alloc (by simp) _
 have hs2:W2.heap.size=w.heap.size+2:=by rw [hW2];simp
 have hB:∀q u,#[.int .i64 k,.string t,.slice a n cap][q]?=some u->W2.cell? ⟨w.heap.size,q,none⟩=some u:=fun q u h=>by rw [hW2,World.cell?_alloc_past _ _ _ (by simp),World.cell?_alloc_new];exact h
 have hC:∀q u,#[.int .i64 0,.string ⟨#[]⟩,.slice none 0 0][q]?=some u->W2.cell? ⟨w.heap.size+1,q,none⟩=some u:=fun q u h=>by
   rw [hW2,show w.heap.size+1=(w.alloc (.cells #[.int .i64 k,.string t,.slice a n cap] 24)).heap.size by simp,World.cell?_alloc_new];exact h
 have hfC:Blk W2 (w.heap.size+1):=by rw [hW2,show w.heap.size+1=(w.alloc (.cells #[.int .i64 k,.string t,.slice a n cap] 24)).heap.size by simp];exact Blk.new _ _ _
 have g0:W2.cell? ⟨w.heap.size,0,none⟩=some (.int .i64 k):=hB 0 _ rfl
 have g1:W2.cell? ⟨w.heap.size,1,none⟩=some (.string t):=hB 1 _ rfl
 have g2:W2.cell? ⟨w.heap.size,2,none⟩=some (.slice a n cap):=hB 2 _ rfl
 have i0:W2.cell? ⟨w.heap.size+1,0,none⟩=some (.int .i64 0):=hC 0 _ rfl
 have i1:W2.cell? ⟨w.heap.size+1,1,none⟩=some (.string ⟨#[]⟩):=hC 1 _ rfl
 have i2:W2.cell? ⟨w.heap.size+1,2,none⟩=some (.slice none 0 0):=hC 2 _ rfl
 have y0:=hfC.frz 0 none
 have y1:=hfC.frz 1 none
 have y2:=hfC.frz 2 none
 replace hW2:=Hd hW2
 clear hB hC
 have hcn:=Cl hr
 rw [hb] at hcn
 have hcf:=Cl hy
 replace hcn:=Hd hcn
 rw [hf] at hcf
 replace hcf:=Hd hcf
 clear hb hf hr hy
 rcases hwas with ⟨rfl,rfl⟩ | ⟨rfl,hpar⟩
 · have hbel:=hb2
   go_enter Tryz.func12,Tryz.ntmps12
   go_upto_region 2 with fail
   rw [<-hW2.out];go_wp2_with fail
   refine (hcn.out _).mono ?_;rintro e w4 ⟨rfl,hww⟩;obtain rfl:=hww.symm;clear hww;go_wp2_with fail
   refine (hcf.out _).mono ?_;rintro e w4 ⟨rfl,hww⟩;obtain rfl:=hww.symm;clear hww;have hfin:=set3 hbel;replace hfin:=Hd hfin;go_wp2_with fail
   refine bodyPost_ret (v:=.tuple #[.agg #[.int .i64 0,.string t,.slice a n cap],.string ⟨#[]⟩,.int .i64 21]) (by simp [results,Tryz.results12,go_sem,i0,i1,i2]) rfl ⟨rfl,hfin.out _ _ _⟩
 · have hpw:=hpar W2 hb2
   replace hpw:=Hd hpw;clear hpar
   go_enter Tryz.func12,Tryz.ntmps12
   go_upto_region 2 with fail
   rw [<-hW2.out];go_wp2_with fail
   refine hpw.out.mono ?_;rintro e w3 ⟨rfl,hb3⟩;replace g0:=Aa hb3 g0;replace g1:=Aa hb3 g1;replace g2:=Aa hb3 g2;replace i0:=Aa hb3 i0;replace i1:=Aa hb3 i1;replace i2:=Aa hb3 i2;replace hfC:=hfC.of_block (hb3.block _ hfC.lt);clear y0 y1 y2;have y0:=hfC.frz 0 none;have y1:=hfC.frz 1 none;have y2:=hfC.frz 2 none;have hbel:=hb2.trans (hb3.mono hb2.size);unfold ParA;go_wp2_with fail
   refine (hcn.out _).mono ?_;rintro e w4 ⟨rfl,hww⟩;obtain rfl:=hww.symm;clear hww;go_wp2_with fail
   refine (hcf.out _).mono ?_;rintro e w4 ⟨rfl,hww⟩;obtain rfl:=hww.symm;clear hww;have hfin:=set3 hbel;replace hfin:=Hd hfin;go_wp2_with fail
   refine bodyPost_ret (v:=.tuple #[.agg #[.int .i64 1,.string t,.slice a n cap],.string ⟨#[]⟩,.int .i64 21]) (by simp [results,Tryz.results12,go_sem,i0,i1,i2]) rfl ⟨rfl,hfin.out _ _ _⟩
set_option maxRecDepth 100000 in
set_option maxHeartbeats 6400000 in
theorem areal_over (k:Int) (t:ByteArray) (a:Option Addr) (n cap:Nat) (r y:Nat) (w:World) (hr:r<18446744073709551616) (hy:y<18446744073709551616) (hb:badF r=false) (hf:badF y=false) (hs:badF (sumV r y)=true) (hwas:Was k t r w) :
   Calls Tryz.prog 12 #[.agg #[.int .i64 k,.string t,.slice a n cap],.float .f64 y] w fun e w' => e=.returned (.tuple #[.agg #[.int .i64 k,.string t,.slice a n cap],.string ⟨#[]⟩,.int .i64 21])/\Below w.heap.size w w' := by
 obtain ⟨W2,hW2⟩:∃W2,W2=(w.alloc (.cells #[.int .i64 k,.string t,.slice a n cap] 24)).alloc (.cells #[.int .i64 0,.string ⟨#[]⟩,.slice none 0 0] 24):=⟨_,rfl⟩
 have hb2:Below w.heap.size w W2:=by rw [hW2];exact ((Below.refl _ _).alloc (Nat.le_refl _) _).alloc (by simp) _
 have hs2:W2.heap.size=w.heap.size+2:=by rw [hW2];simp
 have hB:∀q u,#[.int .i64 k,.string t,.slice a n cap][q]?=some u->W2.cell? ⟨w.heap.size,q,none⟩=some u:=fun q u h=>by rw [hW2,World.cell?_alloc_past _ _ _ (by simp),World.cell?_alloc_new];exact h
 have hC:∀q u,#[.int .i64 0,.string ⟨#[]⟩,.slice none 0 0][q]?=some u->W2.cell? ⟨w.heap.size+1,q,none⟩=some u:=fun q u h=>by
   rw [hW2,show w.heap.size+1=(w.alloc (.cells #[.int .i64 k,.string t,.slice a n cap] 24)).heap.size by simp,World.cell?_alloc_new];exact h
 have hfC:Blk W2 (w.heap.size+1):=by rw [hW2,show w.heap.size+1=(w.alloc (.cells #[.int .i64 k,.string t,.slice a n cap] 24)).heap.size by simp];exact Blk.new _ _ _
 have g0:W2.cell? ⟨w.heap.size,0,none⟩=some (.int .i64 k):=hB 0 _ rfl
 have g1:W2.cell? ⟨w.heap.size,1,none⟩=some (.string t):=hB 1 _ rfl
 have g2:W2.cell? ⟨w.heap.size,2,none⟩=some (.slice a n cap):=hB 2 _ rfl
 have i0:W2.cell? ⟨w.heap.size+1,0,none⟩=some (.int .i64 0):=hC 0 _ rfl
 have i1:W2.cell? ⟨w.heap.size+1,1,none⟩=some (.string ⟨#[]⟩):=hC 1 _ rfl
 have i2:W2.cell? ⟨w.heap.size+1,2,none⟩=some (.slice none 0 0):=hC 2 _ rfl
 have y0:=hfC.frz 0 none
 have y1:=hfC.frz 1 none
 have y2:=hfC.frz 2 none
 replace hW2:=Hd hW2
 clear hB hC
 have hcn:=Cl hr
 rw [hb] at hcn
 have hcf:=Cl hy
 replace hcn:=Hd hcn
 rw [hf] at hcf
 have had:=fun W=>radd_all r y W
 rw [hs] at had
 simp only [if_true] at had
 replace had:=Hd had
 replace hcf:=Hd hcf
 clear hb hf hr hy hs
 rcases hwas with ⟨rfl,rfl⟩ | ⟨rfl,hpar⟩
 · have hbel:=hb2
   go_enter Tryz.func12,Tryz.ntmps12
   go_upto_region 2 with fail
   rw [<-hW2.out];go_wp2_with fail
   refine (hcn.out _).mono ?_;rintro e w4 ⟨rfl,hww⟩;obtain rfl:=hww.symm;clear hww;go_wp2_with fail
   refine (hcf.out _).mono ?_;rintro e w4 ⟨rfl,hww⟩;obtain rfl:=hww.symm;clear hww;go_wp2_with fail
   refine (had.out _).mono ?_;rintro e w5 ⟨rfl,hb5⟩;replace g0:=Aa hb5 g0;replace g1:=Aa hb5 g1;replace g2:=Aa hb5 g2;replace i0:=Aa hb5 i0;replace i1:=Aa hb5 i1;replace i2:=Aa hb5 i2;replace hfC:=hfC.of_block (hb5.block _ hfC.lt);clear y0 y1 y2;have y0:=hfC.frz 0 none;have y1:=hfC.frz 1 none;have y2:=hfC.frz 2 none;have hbel:=hbel.trans (hb5.mono hbel.size);have hfin:=set3 hbel;replace hfin:=Hd hfin;go_wp2_with fail
   refine bodyPost_ret (v:=.tuple #[.agg #[.int .i64 0,.string t,.slice a n cap],.string ⟨#[]⟩,.int .i64 21]) (by simp [results,Tryz.results12,go_sem,i0,i1,i2]) rfl ⟨rfl,hfin.out _ _ _⟩
 · have hpw:=hpar W2 hb2
   replace hpw:=Hd hpw;clear hpar
   go_enter Tryz.func12,Tryz.ntmps12
   go_upto_region 2 with fail
   rw [<-hW2.out];go_wp2_with fail
   refine hpw.out.mono ?_;rintro e w3 ⟨rfl,hb3⟩;replace g0:=Aa hb3 g0;replace g1:=Aa hb3 g1;replace g2:=Aa hb3 g2;replace i0:=Aa hb3 i0;replace i1:=Aa hb3 i1;replace i2:=Aa hb3 i2;replace hfC:=hfC.of_block (hb3.block _ hfC.lt);clear y0 y1 y2;have y0:=hfC.frz 0 none;have y1:=hfC.frz 1 none;have y2:=hfC.frz 2 none;have hbel:=hb2.trans (hb3.mono hb2.size);unfold ParA;go_wp2_with fail
   refine (hcn.out _).mono ?_;rintro e w4 ⟨rfl,hww⟩;obtain rfl:=hww.symm;clear hww;go_wp2_with fail
   refine (hcf.out _).mono ?_;rintro e w4 ⟨rfl,hww⟩;obtain rfl:=hww.symm;clear hww;go_wp2_with fail
   refine (had.out _).mono ?_;rintro e w5 ⟨rfl,hb5⟩;replace g0:=Aa hb5 g0;replace g1:=Aa hb5 g1;replace g2:=Aa hb5 g2;replace i0:=Aa hb5 i0;replace i1:=Aa hb5 i1;replace i2:=Aa hb5 i2;replace hfC:=hfC.of_block (hb5.block _ hfC.lt);clear y0 y1 y2;have y0:=hfC.frz 0 none;have y1:=hfC.frz 1 none;have y2:=hfC.frz 2 none;have hbel:=hbel.trans (hb5.mono hbel.size);have hfin:=set3 hbel;replace hfin:=Hd hfin;go_wp2_with fail
   refine bodyPost_ret (v:=.tuple #[.agg #[.int .i64 1,.string t,.slice a n cap],.string ⟨#[]⟩,.int .i64 21]) (by simp [results,Tryz.results12,go_sem,i0,i1,i2]) rfl ⟨rfl,hfin.out _ _ _⟩
set_option maxRecDepth 100000 in
set_option maxHeartbeats 6400000 in
theorem areal_sum (k:Int) (t:ByteArray) (a:Option Addr) (n cap:Nat) (r y:Nat) (w:World) (hr:r<18446744073709551616) (hy:y<18446744073709551616) (hb:badF r=false) (hf:badF y=false) (hs:badF (sumV r y)=false) (hwas:Was k t r w) (hF:Flo w) :
   Calls Tryz.prog 12 #[.agg #[.int .i64 k,.string t,.slice a n cap],.float .f64 y] w fun e w' => e=.returned (.tuple #[.agg #[.int .i64 1,.string ⟨(Bz (sumV r y)).toArray⟩,.slice none 0 0],.string ⟨(Bz (sumV r y)).toArray⟩,.int .i64 0])/\Below w.heap.size w w' := by
 have htx:∀W,Below w.heap.size w W->Calls Tryz.prog 33 #[.float .f64 (sumV r y)] W fun e w' => e=.returned (.string ⟨(Bz (sumV r y)).toArray⟩)/\Below W.heap.size W w' := fun W hW=>
   (realText_any (sumV_lt r y) (hF.below hW)).mono fun e w' ⟨T,h1,h2,h3⟩=>⟨by rw [h1,Fu h2],h3⟩
 obtain ⟨W2,hW2⟩:∃W2,W2=(w.alloc (.cells #[.int .i64 k,.string t,.slice a n cap] 24)).alloc (.cells #[.int .i64 0,.string ⟨#[]⟩,.slice none 0 0] 24):=⟨_,rfl⟩
 have hb2:Below w.heap.size w W2:=by rw [hW2];exact ((Below.refl _ _).alloc (Nat.le_refl _) _).alloc (by simp) _
 have hs2:W2.heap.size=w.heap.size+2:=by rw [hW2];simp
 have hB:∀q u,#[.int .i64 k,.string t,.slice a n cap][q]?=some u->W2.cell? ⟨w.heap.size,q,none⟩=some u:=fun q u h=>by rw [hW2,World.cell?_alloc_past _ _ _ (by simp),World.cell?_alloc_new];exact h
 have hC:∀q u,#[.int .i64 0,.string ⟨#[]⟩,.slice none 0 0][q]?=some u->W2.cell? ⟨w.heap.size+1,q,none⟩=some u:=fun q u h=>by
   rw [hW2,show w.heap.size+1=(w.alloc (.cells #[.int .i64 k,.string t,.slice a n cap] 24)).heap.size by simp,World.cell?_alloc_new];exact h
 have hfC:Blk W2 (w.heap.size+1):=by rw [hW2,show w.heap.size+1=(w.alloc (.cells #[.int .i64 k,.string t,.slice a n cap] 24)).heap.size by simp];exact Blk.new _ _ _
 have g0:W2.cell? ⟨w.heap.size,0,none⟩=some (.int .i64 k):=hB 0 _ rfl
 have g1:W2.cell? ⟨w.heap.size,1,none⟩=some (.string t):=hB 1 _ rfl
 have g2:W2.cell? ⟨w.heap.size,2,none⟩=some (.slice a n cap):=hB 2 _ rfl
 have i0:W2.cell? ⟨w.heap.size+1,0,none⟩=some (.int .i64 0):=hC 0 _ rfl
 have i1:W2.cell? ⟨w.heap.size+1,1,none⟩=some (.string ⟨#[]⟩):=hC 1 _ rfl
 have i2:W2.cell? ⟨w.heap.size+1,2,none⟩=some (.slice none 0 0):=hC 2 _ rfl
 have y0:=hfC.frz 0 none
 have y1:=hfC.frz 1 none
 have y2:=hfC.frz 2 none
 replace hW2:=Hd hW2
 clear hB hC
 have hcn:=Cl hr
 rw [hb] at hcn
 have hcf:=Cl hy
 replace hcn:=Hd hcn
 rw [hf] at hcf
 have had:=fun W=>radd_all r y W
 rw [hs] at had
 simp only [Bool.false_eq_true,if_false] at had
 obtain ⟨s,hse⟩:∃s,s=sumV r y:=⟨_,rfl⟩
 rw [<-hse] at had htx ⊢
 obtain ⟨T,hT⟩:∃T:ByteArray,T=⟨(Bz s).toArray⟩:=⟨_,rfl⟩
 rw [<-hT] at htx ⊢
 replace had:=Hd had
 replace htx:=Hd htx
 replace hcf:=Hd hcf
 clear hb hf hr hy hs hse hT hF
 rcases hwas with ⟨rfl,rfl⟩ | ⟨rfl,hpar⟩
 · have hbel:=hb2
   go_enter Tryz.func12,Tryz.ntmps12
   go_upto_region 2 with fail
   rw [<-hW2.out];go_wp2_with fail
   refine (hcn.out _).mono ?_;rintro e w4 ⟨rfl,hww⟩;obtain rfl:=hww.symm;clear hww;go_wp2_with fail
   refine (hcf.out _).mono ?_;rintro e w4 ⟨rfl,hww⟩;obtain rfl:=hww.symm;clear hww;go_wp2_with fail
   refine (had.out _).mono ?_;rintro e w5 ⟨rfl,hb5⟩;replace g0:=Aa hb5 g0;replace g1:=Aa hb5 g1;replace g2:=Aa hb5 g2;replace i0:=Aa hb5 i0;replace i1:=Aa hb5 i1;replace i2:=Aa hb5 i2;replace hfC:=hfC.of_block (hb5.block _ hfC.lt);clear y0 y1 y2;have y0:=hfC.frz 0 none;have y1:=hfC.frz 1 none;have y2:=hfC.frz 2 none;have hbel:=hbel.trans (hb5.mono hbel.size);have ht1:=htx.out w5 hbel;replace ht1:=Hd ht1;go_wp2_with fail
   refine ht1.out.mono ?_;rintro e w6 ⟨rfl,hb6⟩;replace g0:=Aa hb6 g0;replace g1:=Aa hb6 g1;replace g2:=Aa hb6 g2;replace i0:=Aa hb6 i0;replace i1:=Aa hb6 i1;replace i2:=Aa hb6 i2;replace hfC:=hfC.of_block (hb6.block _ hfC.lt);clear y0 y1 y2;have y0:=hfC.frz 0 none;have y1:=hfC.frz 1 none;have y2:=hfC.frz 2 none;have hbel:=hbel.trans (hb6.mono hbel.size);go_wp2_with fail
   refine (E7 _ _).mono ?_;rintro e w7 ⟨rfl,hb7⟩;replace g0:=Aa hb7 g0;replace g1:=Aa hb7 g1;replace g2:=Aa hb7 g2;replace i0:=Aa hb7 i0;replace i1:=Aa hb7 i1;replace i2:=Aa hb7 i2;replace hfC:=hfC.of_block (hb7.block _ hfC.lt);clear y0 y1 y2;have y0:=hfC.frz 0 none;have y1:=hfC.frz 1 none;have y2:=hfC.frz 2 none;have hbel:=hbel.trans (hb7.mono hbel.size);have ht2:=htx.out w7 hbel;replace ht2:=Hd ht2;go_wp2_with fail
   refine ht2.out.mono ?_;rintro e w8 ⟨rfl,hb8⟩;replace g0:=Aa hb8 g0;replace g1:=Aa hb8 g1;replace g2:=Aa hb8 g2;replace i0:=Aa hb8 i0;replace i1:=Aa hb8 i1;replace i2:=Aa hb8 i2;replace hfC:=hfC.of_block (hb8.block _ hfC.lt);clear y0 y1 y2;have y0:=hfC.frz 0 none;have y1:=hfC.frz 1 none;have y2:=hfC.frz 2 none;have hbel:=hbel.trans (hb8.mono hbel.size);have hfin:=set3 hbel;replace hfin:=Hd hfin;go_wp2_with fail
   refine bodyPost_ret (v:=.tuple #[.agg #[.int .i64 1,.string T,.slice none 0 0],.string T,.int .i64 0]) (by simp [results,Tryz.results12,go_sem,i0,i1,i2]) rfl ⟨rfl,hfin.out _ _ _⟩
 · have hpw:=hpar W2 hb2
   replace hpw:=Hd hpw;clear hpar
   go_enter Tryz.func12,Tryz.ntmps12
   go_upto_region 2 with fail
   rw [<-hW2.out];go_wp2_with fail
   refine hpw.out.mono ?_;rintro e w3 ⟨rfl,hb3⟩;replace g0:=Aa hb3 g0;replace g1:=Aa hb3 g1;replace g2:=Aa hb3 g2;replace i0:=Aa hb3 i0;replace i1:=Aa hb3 i1;replace i2:=Aa hb3 i2;replace hfC:=hfC.of_block (hb3.block _ hfC.lt);clear y0 y1 y2;have y0:=hfC.frz 0 none;have y1:=hfC.frz 1 none;have y2:=hfC.frz 2 none;have hbel:=hb2.trans (hb3.mono hb2.size);unfold ParA;go_wp2_with fail
   refine (hcn.out _).mono ?_;rintro e w4 ⟨rfl,hww⟩;obtain rfl:=hww.symm;clear hww;go_wp2_with fail
   refine (hcf.out _).mono ?_;rintro e w4 ⟨rfl,hww⟩;obtain rfl:=hww.symm;clear hww;go_wp2_with fail
   refine (had.out _).mono ?_;rintro e w5 ⟨rfl,hb5⟩;replace g0:=Aa hb5 g0;replace g1:=Aa hb5 g1;replace g2:=Aa hb5 g2;replace i0:=Aa hb5 i0;replace i1:=Aa hb5 i1;replace i2:=Aa hb5 i2;replace hfC:=hfC.of_block (hb5.block _ hfC.lt);clear y0 y1 y2;have y0:=hfC.frz 0 none;have y1:=hfC.frz 1 none;have y2:=hfC.frz 2 none;have hbel:=hbel.trans (hb5.mono hbel.size);have ht1:=htx.out w5 hbel;replace ht1:=Hd ht1;go_wp2_with fail
   refine ht1.out.mono ?_;rintro e w6 ⟨rfl,hb6⟩;replace g0:=Aa hb6 g0;replace g1:=Aa hb6 g1;replace g2:=Aa hb6 g2;replace i0:=Aa hb6 i0;replace i1:=Aa hb6 i1;replace i2:=Aa hb6 i2;replace hfC:=hfC.of_block (hb6.block _ hfC.lt);clear y0 y1 y2;have y0:=hfC.frz 0 none;have y1:=hfC.frz 1 none;have y2:=hfC.frz 2 none;have hbel:=hbel.trans (hb6.mono hbel.size);go_wp2_with fail
   refine (E7 _ _).mono ?_;rintro e w7 ⟨rfl,hb7⟩;replace g0:=Aa hb7 g0;replace g1:=Aa hb7 g1;replace g2:=Aa hb7 g2;replace i0:=Aa hb7 i0;replace i1:=Aa hb7 i1;replace i2:=Aa hb7 i2;replace hfC:=hfC.of_block (hb7.block _ hfC.lt);clear y0 y1 y2;have y0:=hfC.frz 0 none;have y1:=hfC.frz 1 none;have y2:=hfC.frz 2 none;have hbel:=hbel.trans (hb7.mono hbel.size);have ht2:=htx.out w7 hbel;replace ht2:=Hd ht2;go_wp2_with fail
   refine ht2.out.mono ?_;rintro e w8 ⟨rfl,hb8⟩;replace g0:=Aa hb8 g0;replace g1:=Aa hb8 g1;replace g2:=Aa hb8 g2;replace i0:=Aa hb8 i0;replace i1:=Aa hb8 i1;replace i2:=Aa hb8 i2;replace hfC:=hfC.of_block (hb8.block _ hfC.lt);clear y0 y1 y2;have y0:=hfC.frz 0 none;have y1:=hfC.frz 1 none;have y2:=hfC.frz 2 none;have hbel:=hbel.trans (hb8.mono hbel.size);have hfin:=set3 hbel;replace hfin:=Hd hfin;go_wp2_with fail
   refine bodyPost_ret (v:=.tuple #[.agg #[.int .i64 1,.string T,.slice none 0 0],.string T,.int .i64 0]) (by simp [results,Tryz.results12,go_sem,i0,i1,i2]) rfl ⟨rfl,hfin.out _ _ _⟩
end Go.Proofs.YteoalcmhdoopnaaGreatDoor
