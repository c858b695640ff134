/- slices.Clone over fields, item.Copy. -/
import Derived.Test.YteoalcmhdoopnaaGreatDoorJ34
import Derived.Lib.SliceRun
namespace Go.Proofs.YteoalcmhdoopnaaGreatDoor
open Go.RowKit
theorem eFld:Elem Tryz.prog 22 53 2 32:=elem_of Tryz.underlying22 (by decide) (by decide) (by kernel_rfl)
theorem flds_one (fs:List Fld):(flds fs).all (fun u=>u.oneCell')=true:=by
 rw [List.all_eq_true];intro u hu;unfold flds at hu;obtain ⟨f,_,h⟩:=List.mem_flatMap.1 hu;simp only [fcells,List.mem_cons,List.not_mem_nil,or_false] at h;rcases h with rfl | rfl<;>rfl
theorem RF.nil {w:World} {n cap:Nat} {fs:List Fld} (h:RF w none n cap fs):n=0/\fs=[]:=by
 have hl:=h.len;rcases Nat.eq_zero_or_pos n with e | e
 · exact ⟨e,List.length_eq_zero_iff.1 (by omega)⟩
 · obtain ⟨b,o,f,_,h,_⟩:=h.at e;cases h
theorem RF.of_owns {w:World} {B n cap:Nat} {a:Option Addr} {fs:List Fld} (h:w.ownsRow B 53 2 (.slice a n cap) n (flds fs)):RF w a n cap fs:=Reads.of_owns h
set_option maxRecDepth 100000 in
set_option maxHeartbeats 1600000 in
theorem clone_any (a:Option Addr) (n cap:Nat) (fs:List Fld) (w:World) (hr:RF w a n cap fs) (hn:n<=100000) :
   Calls Tryz.prog 45 #[.slice a n cap] w fun e w' => ∃(a' : Option Addr) (cap' : Nat),e=.returned (.slice a' n cap')/\w'.ownsRow w.heap.size 53 2 (.slice a' n cap') n (flds fs)/\Below w.heap.size w w' := by
 have hnil:∀W,(binOp .eql 22 (.slice a n cap) (.slice none 0 0)).run Tryz.prog W=.ok (.bool a.isNone) W:=fun W=>Lib.run_eql_slice_nil W _ _ a n cap 0 0 Tryz.underlying22
 cases a with
 | none=>
   obtain ⟨rfl,rfl⟩:=hr.nil
   go_enter Tryz.func45,Tryz.ntmps45
   go_wp2;go_ret;exact ⟨none,0,rfl,World.ownsRow_nil _ _ _ _,Below.refl _ _⟩
 | some ad=>
   have hal:=(Below.refl w.heap.size w).alloc (Nat.le_refl _) (.cells #[] 53);have hown:=owns_empty w 53 2;have hr2:=hr.below hal;have hone:=flds_one fs;replace hal:=Hd hal;replace hr2:=Hd hr2;replace hone:=Hd hone;replace hown:=Hd hown;clear hr
   go_enter Tryz.func45,Tryz.ntmps45
   go_wp2_with (at_builtin;refine append_many rfl rfl eFld rfl hown.out rfl hr2.out (fun h=>by cases h) hone.out (by omega) (by simp) ?_)
   intro v' w' hown' hf hnw;obtain ⟨a3,c3,rfl⟩:=(Reads.of_owns hown').shape;have hbel:Below w.heap.size w w' := hal.out.trans (hf.below (by simp) (fun i hi h=>by simp [Value.ownBlock] at h;omega));clear hf hnw;go_wp2;go_ret;exact ⟨a3,c3,by first | rfl | simp,by simpa using hown', hbel⟩
set_option maxRecDepth 100000 in
set_option maxHeartbeats 3200000 in
theorem icopy_any (k:Int) (t:ByteArray) (a:Option Addr) (n cap:Nat) (fs:List Fld) (w:World) (hr:RF w a n cap fs) (hn:n<=100000) :
   Calls Tryz.prog 22 #[.agg #[.int .i64 k,.string t,.slice a n cap]] w fun e w' => ∃(a' : Option Addr) (cap' : Nat),e=.returned (.agg #[.int .i64 k,.string t,.slice a' n cap'])/\w'.ownsRow (w.heap.size+2) 53 2 (.slice a' n cap') n (flds fs)/\Below w.heap.size w w' := by
 obtain ⟨W2,hW2⟩:∃W2,W2=(w.alloc (.cells #[.int .i64 k,.string t,.slice a n cap] 24)).alloc (.cells #[.int .i64 0,.string ⟨#[]⟩,.slice none 0 0] 24):=⟨_,rfl⟩
 have hb2:Below w.heap.size w W2:=by rw [hW2];exact ((Below.refl _ _).alloc (Nat.le_refl _) _).alloc (by simp) _
 have hs2:W2.heap.size=w.heap.size+2:=by rw [hW2];simp
 have hB:∀q u,#[.int .i64 k,.string t,.slice a n cap][q]?=some u->W2.cell? ⟨w.heap.size,q,none⟩=some u:=fun q u h=>by rw [hW2,World.cell?_alloc_past _ _ _ (by simp),World.cell?_alloc_new];exact h
 have hC:∀q u,#[.int .i64 0,.string ⟨#[]⟩,.slice none 0 0][q]?=some u->W2.cell? ⟨w.heap.size+1,q,none⟩=some u:=fun q u h=>by
   rw [hW2,show w.heap.size+1=(w.alloc (.cells #[.int .i64 k,.string t,.slice a n cap] 24)).heap.size by simp,World.cell?_alloc_new];exact h
 have hfB:Blk W2 w.heap.size:=by rw [hW2];exact (Blk.new w _ _).fr (S:=fun _=>False) ((Fr.refl _ _).alloc _) (fun h=>h)
 have hfC:Blk W2 (w.heap.size+1):=by rw [hW2,show w.heap.size+1=(w.alloc (.cells #[.int .i64 k,.string t,.slice a n cap] 24)).heap.size by simp];exact Blk.new _ _ _
 have hr2:=hr.below hb2
 replace hW2:=Hd hW2
 replace hs2:=Hd hs2
 replace hr2:=Hd hr2
 replace hB:=Hd hB
 replace hC:=Hd hC
 clear hr
 go_enter Tryz.func22,Tryz.ntmps22
 go_upto_region 1 with fail
 rw [<-hW2.out]
 have g0:W2.cell? ⟨w.heap.size,0,none⟩=some (.int .i64 k):=hB.out 0 _ rfl
 have g1:W2.cell? ⟨w.heap.size,1,none⟩=some (.string t):=hB.out 1 _ rfl
 have g2:W2.cell? ⟨w.heap.size,2,none⟩=some (.slice a n cap):=hB.out 2 _ rfl
 go_wp2_with (go_at_call 45;refine (clone_any a n cap fs _ hr2.out hn).mono ?_)
 rintro e w3 ⟨a3,c3,rfl,hown,hb3⟩
 rw [hs2.out] at hown
 have e0:=Aa hb3 g0
 have e1:=Aa hb3 g1
 have e2:=Aa hb3 g2
 have i0:=Aa hb3 (hC.out 0 _ rfl)
 have i1:=Aa hb3 (hC.out 1 _ rfl)
 have i2:=Aa hb3 (hC.out 2 _ rfl)
 have fB:=hfB.of_block (hb3.block _ (by rw [hs2.out];omega))
 have fC:=hfC.of_block (hb3.block _ (by rw [hs2.out];omega))
 have z2:=fB.frz 2 none
 have y0:=fC.frz 0 none
 have y1:=fC.frz 1 none
 have y2:=fC.frz 2 none
 have hbel:=hb2.trans (hb3.mono hb2.size)
 have hfin:∀x y z u,Fr (fun k=>k=w.heap.size\/k=w.heap.size+1) w3 ((((w3.setCell ⟨w.heap.size,2,none⟩ u).setCell ⟨w.heap.size+1,0,none⟩ x).setCell ⟨w.heap.size+1,1,none⟩ y).setCell ⟨w.heap.size+1,2,none⟩ z):=fun x y z u=>
   ((((Fr.refl _ w3).setCell (fun _=>Or.inl rfl) _).setCell (fun _=>Or.inr rfl) _).setCell (fun _=>Or.inr rfl) _).setCell (fun _=>Or.inr rfl) _
 replace hown:=Hd hown
 replace hfin:=Hd hfin
 clear g0 g1 g2
 go_wp2_with fail
 refine bodyPost_ret (v:=.agg #[.int .i64 k,.string t,.slice a3 n c3]) (by simp [results,Tryz.results22,go_sem,i0,i1,i2]) rfl ⟨a3,c3,rfl,?_,?_⟩
 · exact owns_fr hown.out (hfin.out _ _ _ _) (fun q hq=>by have:=(Bw hown.out q hq).1;omega)
 · exact hbel.trans ((hfin.out _ _ _ _).below hbel.size (fun i hi h=>by omega))
def Am (n:Int):Prop:=-9223372036854775808<=n/\n<=9223372036854775807
set_option maxRecDepth 100000 in
theorem wadd_in (a b:Int) (ha:Am a) (hb:Am b) (hs:Am (a+b)) (w:World):Calls Tryz.prog 24 #[.int .i64 a,.int .i64 b] w fun e w' => e=.returned (.tuple #[.int .i64 (a+b),.int .i64 0])/\Below w.heap.size w w' := by
 obtain ⟨a0,a1⟩:=ha;obtain ⟨b0,b1⟩:=hb;obtain ⟨s0,s1⟩:=hs;by_cases h1:0<b
 · have h2:IntKind.i64.wrap (9223372036854775807 - b)=9223372036854775807 - b:=IntWalk.i64_in _ (by omega)
   have h3:¬9223372036854775807 - b<a:=by omega
   have h4:¬b<0:=by omega
   go_enter Tryz.func24,Tryz.ntmps24
   go_wp2
   go_ret2
   exact ⟨rfl,Below.refl _ _⟩
 · by_cases h4:b<0
   · have h2:IntKind.i64.wrap (-9223372036854775808 - b)=-9223372036854775808 - b:=IntWalk.i64_in _ (by omega)
     have h3:¬a < -9223372036854775808 - b:=by omega
     go_enter Tryz.func24,Tryz.ntmps24
     go_wp2
     go_ret2
     exact ⟨rfl,Below.refl _ _⟩
   · go_enter Tryz.func24,Tryz.ntmps24
     go_wp2
     go_ret2
     exact ⟨rfl,Below.refl _ _⟩
set_option maxRecDepth 100000 in
theorem wadd_out (a b:Int) (ha:Am a) (hb:Am b) (hs:¬Am (a+b)) (w:World):Calls Tryz.prog 24 #[.int .i64 a,.int .i64 b] w fun e w' => e=.returned (.tuple #[.int .i64 0,.int .i64 12])/\Below w.heap.size w w' := by
 obtain ⟨a0,a1⟩:=ha;obtain ⟨b0,b1⟩:=hb;unfold Am at hs;by_cases h1:0<b
 · have h2:IntKind.i64.wrap (9223372036854775807 - b)=9223372036854775807 - b:=IntWalk.i64_in _ (by omega)
   have h3:9223372036854775807 - b<a:=by omega
   have h4:¬b<0:=by omega
   clear hs
   go_enter Tryz.func24,Tryz.ntmps24
   go_wp2
   go_ret2
   exact ⟨rfl,Below.refl _ _⟩
 · have h4:b<0:=by omega
   have h2:IntKind.i64.wrap (-9223372036854775808 - b)=-9223372036854775808 - b:=IntWalk.i64_in _ (by omega);have h3:a < -9223372036854775808 - b:=by omega
   clear hs
   go_enter Tryz.func24,Tryz.ntmps24
   go_wp2
   go_ret2
   exact ⟨rfl,Below.refl _ _⟩
theorem E7 (t:ByteArray) (w:World):Calls Tryz.prog 25 #[.string t] w fun e w' => e=.returned (.agg #[.int .i64 1,.string t,.slice none 0 0])/\Below w.heap.size w w' := by
 have hal:=(Below.refl w.heap.size w).alloc (Nat.le_refl _) (.cells #[.int .i64 1,.string t,.slice none 0 0] 24);replace hal:=Hd hal
 go_enter Tryz.func25,Tryz.ntmps25
 go_wp2;refine bodyPost_ret (v:=.agg #[.int .i64 1,.string t,.slice none 0 0]) (by simp [results,Tryz.results25,go_sem]) rfl ⟨rfl,hal.out⟩
def wasZ (k:Int) (t:ByteArray):Option Int:=if k=1 then wP t.data.toList else some 0
def sumT (n:Int):ByteArray:=⟨(Lib.itoa n).toArray⟩
theorem set3 {w w3:World} (hb:Below w.heap.size w w3) (x y z:Value):Below w.heap.size w (((w3.setCell ⟨w.heap.size+1,0,none⟩ x).setCell ⟨w.heap.size+1,1,none⟩ y).setCell ⟨w.heap.size+1,2,none⟩ z):=
 ((hb.setCell (by simp) x).setCell (by simp) y).setCell (by simp) z
set_option maxRecDepth 100000 in
set_option maxHeartbeats 3200000 in
theorem iadd_in (k:Int) (t:ByteArray) (a:Option Addr) (n cap:Nat) (v was:Int) (w:World) (hk:k≠2) (hw:wasZ k t=some was) (hv:Am v) (hs:Am (was+v)) (ht:t.size<=1000000) (hN:Nums w) :
   Calls Tryz.prog 10 #[.agg #[.int .i64 k,.string t,.slice a n cap],.int .i64 v] w fun e w' => e=.returned (.tuple #[.agg #[.int .i64 1,.string (sumT (was+v)),.slice none 0 0],.int .i64 (was+v),.int .i64 0])/\Below w.heap.size w w' := by
 have hwf:Am was:=by
   unfold wasZ at hw;split at hw
   · exact (wP_iff.1 hw).1
   · simp only [Option.some.injEq] at hw;subst hw;exact ⟨by omega,by omega⟩
 have hk2:(k == 2)=false:=by simpa using hk
 obtain ⟨W2,hW2⟩:∃W2,W2=(w.alloc (.cells #[.int .i64 k,.string t,.slice a n cap] 24)).alloc (.cells #[.int .i64 0,.string ⟨#[]⟩,.slice none 0 0] 24):=⟨_,rfl⟩
 have hb2:Below w.heap.size w W2:=by rw [hW2];exact ((Below.refl _ _).alloc (Nat.le_refl _) _).alloc (by simp) _
 have hs2:W2.heap.size=w.heap.size+2:=by rw [hW2];simp
 have hB:∀q u,#[.int .i64 k,.string t,.slice a n cap][q]?=some u->W2.cell? ⟨w.heap.size,q,none⟩=some u:=fun q u h=>by rw [hW2,World.cell?_alloc_past _ _ _ (by simp),World.cell?_alloc_new];exact h
 have hC:∀q u,#[.int .i64 0,.string ⟨#[]⟩,.slice none 0 0][q]?=some u->W2.cell? ⟨w.heap.size+1,q,none⟩=some u:=fun q u h=>by
   rw [hW2,show w.heap.size+1=(w.alloc (.cells #[.int .i64 k,.string t,.slice a n cap] 24)).heap.size by simp,World.cell?_alloc_new];exact h
 have hfC:Blk W2 (w.heap.size+1):=by rw [hW2,show w.heap.size+1=(w.alloc (.cells #[.int .i64 k,.string t,.slice a n cap] 24)).heap.size by simp];exact Blk.new _ _ _
 have g0:W2.cell? ⟨w.heap.size,0,none⟩=some (.int .i64 k):=hB 0 _ rfl
 have g1:W2.cell? ⟨w.heap.size,1,none⟩=some (.string t):=hB 1 _ rfl
 have g2:W2.cell? ⟨w.heap.size,2,none⟩=some (.slice a n cap):=hB 2 _ rfl
 have i0:W2.cell? ⟨w.heap.size+1,0,none⟩=some (.int .i64 0):=hC 0 _ rfl
 have i1:W2.cell? ⟨w.heap.size+1,1,none⟩=some (.string ⟨#[]⟩):=hC 1 _ rfl
 have i2:W2.cell? ⟨w.heap.size+1,2,none⟩=some (.slice none 0 0):=hC 2 _ rfl
 have y0:=hfC.frz 0 none
 have y1:=hfC.frz 1 none
 have y2:=hfC.frz 2 none
 replace hW2:=Hd hW2
 clear hB hC
 have hN2:=hN.below hb2
 replace hN2:=Hd hN2
 have hwf' := Hd hwf
 have hv' := Hd hv
 have hs' := Hd hs
 have hsz:Am (was+v) ↔ Am (was+v):=Iff.rfl
 clear hN hsz hwf hv hs
 obtain ⟨T,hT⟩:∃T,T=sumT (was+v):=⟨_,rfl⟩
 rw [<-hT]
 obtain ⟨S,hS⟩:∃S,S=was+v:=⟨_,rfl⟩
 rw [<-hS] at hT hs' ⊢
 have hadd:∀W,Calls Tryz.prog 24 #[.int .i64 was,.int .i64 v] W fun e w' => e=.returned (.tuple #[.int .i64 S,.int .i64 0])/\Below W.heap.size W w' := fun W=>by rw [hS];exact wadd_in was v hwf'.out hv'.out (by rw [<-hS];exact hs'.out) W
 have htxt:∀W,Nums W->Calls Tryz.prog 26 #[.int .i64 S] W fun e w' => e=.returned (.string T)/\Below W.heap.size W w' := fun W h=>by rw [hT];exact wtext_any S hs'.out.1 hs'.out.2 W h
 replace hS:=Hd hS
 replace hT:=Hd hT
 replace hadd:=Hd hadd
 replace htxt:=Hd htxt
 by_cases k1:k=1
 · subst k1
   have hw' : wP t.data.toList=some was:=hw;have hpar:∀W,Nums W->Calls Tryz.prog 23 #[.string t] W fun e w' => e=.returned (.tuple #[.int .i64 was,.int .i64 0])/\Below W.heap.size W w' := fun W h=>(D7 t (by omega) W h).mono fun e w' ⟨he,hb⟩=>⟨by rw [hw'] at he;exact he,hb⟩;replace hpar:=Hd hpar;clear hw hw'
   go_enter Tryz.func10,Tryz.ntmps10
   go_upto_region 2 with fail
   rw [<-hW2.out];go_wp2_with fail
   refine (hpar.out _ hN2.out).mono ?_;rintro e w3 ⟨rfl,hb3⟩;replace g0:=Aa hb3 g0;replace g1:=Aa hb3 g1;replace g2:=Aa hb3 g2;replace i0:=Aa hb3 i0;replace i1:=Aa hb3 i1;replace i2:=Aa hb3 i2;replace hfC:=hfC.of_block (hb3.block _ hfC.lt);clear y0 y1 y2;have y0:=hfC.frz 0 none;have y1:=hfC.frz 1 none;have y2:=hfC.frz 2 none;have hN3:=hN2.out.below hb3;replace hN3:=Hd hN3;have hbel:=hb2.trans (hb3.mono hb2.size);go_wp2_with fail
   refine (hadd.out _).mono ?_;rintro e w4 ⟨rfl,hb4⟩;replace g0:=Aa hb4 g0;replace g1:=Aa hb4 g1;replace g2:=Aa hb4 g2;replace i0:=Aa hb4 i0;replace i1:=Aa hb4 i1;replace i2:=Aa hb4 i2;replace hfC:=hfC.of_block (hb4.block _ hfC.lt);clear y0 y1 y2;have y0:=hfC.frz 0 none;have y1:=hfC.frz 1 none;have y2:=hfC.frz 2 none;have hN4:=hN3.out.below hb4;replace hN4:=Hd hN4;have hbel:=hbel.trans (hb4.mono hbel.size);go_wp2_with fail
   refine (htxt.out _ hN4.out).mono ?_;rintro e w5 ⟨rfl,hb5⟩;replace g0:=Aa hb5 g0;replace g1:=Aa hb5 g1;replace g2:=Aa hb5 g2;replace i0:=Aa hb5 i0;replace i1:=Aa hb5 i1;replace i2:=Aa hb5 i2;replace hfC:=hfC.of_block (hb5.block _ hfC.lt);clear y0 y1 y2;have y0:=hfC.frz 0 none;have y1:=hfC.frz 1 none;have y2:=hfC.frz 2 none;have hbel:=hbel.trans (hb5.mono hbel.size);go_wp2_with fail
   refine (E7 _ _).mono ?_;rintro e w6 ⟨rfl,hb6⟩;replace g0:=Aa hb6 g0;replace g1:=Aa hb6 g1;replace g2:=Aa hb6 g2;replace i0:=Aa hb6 i0;replace i1:=Aa hb6 i1;replace i2:=Aa hb6 i2;replace hfC:=hfC.of_block (hb6.block _ hfC.lt);clear y0 y1 y2;have y0:=hfC.frz 0 none;have y1:=hfC.frz 1 none;have y2:=hfC.frz 2 none;have hbel:=hbel.trans (hb6.mono hbel.size);have hfin:=set3 hbel;replace hfin:=Hd hfin;go_wp2_with fail
   refine bodyPost_ret (v:=.tuple #[.agg #[.int .i64 1,.string T,.slice none 0 0],.int .i64 S,.int .i64 0]) (by simp [results,Tryz.results10,go_sem,i0,i1,i2]) rfl ⟨rfl,hfin.out _ _ _⟩
 · have k1' : (k == 1)=false:=by simpa using k1
   obtain rfl:was=0:=by unfold wasZ at hw;rw [if_neg k1] at hw;simpa using hw.symm
   clear hw k1
   go_enter Tryz.func10,Tryz.ntmps10
   go_upto_region 2 with fail
   rw [<-hW2.out];have hbel:=hb2;go_wp2_with fail
   refine (hadd.out _).mono ?_;rintro e w4 ⟨rfl,hb4⟩;replace g0:=Aa hb4 g0;replace g1:=Aa hb4 g1;replace g2:=Aa hb4 g2;replace i0:=Aa hb4 i0;replace i1:=Aa hb4 i1;replace i2:=Aa hb4 i2;replace hfC:=hfC.of_block (hb4.block _ hfC.lt);clear y0 y1 y2;have y0:=hfC.frz 0 none;have y1:=hfC.frz 1 none;have y2:=hfC.frz 2 none;have hN4:=hN2.out.below hb4;replace hN4:=Hd hN4;have hbel:=hbel.trans (hb4.mono hbel.size);go_wp2_with fail
   refine (htxt.out _ hN4.out).mono ?_;rintro e w5 ⟨rfl,hb5⟩;replace g0:=Aa hb5 g0;replace g1:=Aa hb5 g1;replace g2:=Aa hb5 g2;replace i0:=Aa hb5 i0;replace i1:=Aa hb5 i1;replace i2:=Aa hb5 i2;replace hfC:=hfC.of_block (hb5.block _ hfC.lt);clear y0 y1 y2;have y0:=hfC.frz 0 none;have y1:=hfC.frz 1 none;have y2:=hfC.frz 2 none;have hbel:=hbel.trans (hb5.mono hbel.size);go_wp2_with fail
   refine (E7 _ _).mono ?_;rintro e w6 ⟨rfl,hb6⟩;replace g0:=Aa hb6 g0;replace g1:=Aa hb6 g1;replace g2:=Aa hb6 g2;replace i0:=Aa hb6 i0;replace i1:=Aa hb6 i1;replace i2:=Aa hb6 i2;replace hfC:=hfC.of_block (hb6.block _ hfC.lt);clear y0 y1 y2;have y0:=hfC.frz 0 none;have y1:=hfC.frz 1 none;have y2:=hfC.frz 2 none;have hbel:=hbel.trans (hb6.mono hbel.size);have hfin:=set3 hbel;replace hfin:=Hd hfin;go_wp2_with fail
   refine bodyPost_ret (v:=.tuple #[.agg #[.int .i64 1,.string T,.slice none 0 0],.int .i64 S,.int .i64 0]) (by simp [results,Tryz.results10,go_sem,i0,i1,i2]) rfl ⟨rfl,hfin.out _ _ _⟩
end Go.Proofs.YteoalcmhdoopnaaGreatDoor
