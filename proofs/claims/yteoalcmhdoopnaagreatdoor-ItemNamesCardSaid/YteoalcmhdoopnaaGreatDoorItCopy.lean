/- slices.Clone over fields, item.Copy. -/
import Derived.Test.YteoalcmhdoopnaaGreatDoorItCost
import Derived.Lib.SliceRun
namespace Go.Proofs.YteoalcmhdoopnaaGreatDoor
open Go.RowKit
theorem eFld:Elem Tryz.prog 22 53 2 32:=elem_of Tryz.underlying22 (by decide) (by decide) (by kernel_rfl)
theorem Aq (fs:List Fld):(flds fs).all (fun u=>u.oneCell')=true:=by
 rw [List.all_eq_true];intro u hu;unfold flds at hu;obtain ⟨f,_,h⟩:=List.mem_flatMap.1 hu;simp only [fcells,List.mem_cons,List.not_mem_nil,or_false] at h;rcases h with rfl | rfl<;>rfl
theorem RF.nil {w:World} {n cap:Nat} {fs:List Fld} (h:RF w none n cap fs):n=0/\fs=[]:=by
 have hl:=h.len;rcases Nat.eq_zero_or_pos n with e | e
 · exact ⟨e,List.length_eq_zero_iff.1 (by omega)⟩
 · obtain ⟨b,o,f,_,h,_⟩:=h.at e;cases h
theorem RF.of_owns {w:World} {B n cap:Nat} {a:Option Addr} {fs:List Fld} (h:w.ownsRow B 53 2 (.slice a n cap) n (flds fs)):RF w a n cap fs:=Reads.of_owns h
set_option maxRecDepth 100000 in
set_option maxHeartbeats 1600000 in
theorem A4 (a:Option Addr) (n cap:Nat) (fs:List Fld) (w:World) (hr:RF w a n cap fs) (hn:n<=100000) :
   Calls Tryz.prog 45 #[.slice a n cap] w fun e w' => ∃(a' : Option Addr) (cap' : Nat),e=.returned (.slice a' n cap')/\w'.ownsRow w.heap.size 53 2 (.slice a' n cap') n (flds fs)/\Below w.heap.size w w' := by
 have hnil:∀W,(binOp .eql 22 (.slice a n cap) (.slice none 0 0)).run Tryz.prog W=.ok (.bool a.isNone) W:=fun W=>Lib.run_eql_slice_nil W _ _ a n cap 0 0 Tryz.underlying22
 cases a with
 | none=>
   obtain ⟨rfl,rfl⟩:=hr.nil
   go_enter Tryz.func45,Tryz.ntmps45
   go_wp2;go_ret;exact ⟨none,0,rfl,World.ownsRow_nil _ _ _ _,Below.refl _ _⟩
 | some ad=>
   have hal:=(Below.refl w.heap.size w).alloc (Nat.le_refl _) (.cells #[] 53);have hown:=owns_empty w 53 2;have hr2:=hr.below hal;have hone:=Aq fs;replace hal:=Hd hal;replace hr2:=Hd hr2;replace hone:=Hd hone;replace hown:=Hd hown;clear hr
   go_enter Tryz.func45,Tryz.ntmps45
   go_wp2_with (at_builtin;refine Bd rfl rfl eFld rfl hown.out rfl hr2.out (fun h=>by cases h) hone.out (by omega) (by simp) ?_)
   intro v' w' hown' hf hnw;obtain ⟨a3,c3,rfl⟩:=(Reads.of_owns hown').shape;have hbel:Below w.heap.size w w' := hal.out.trans (hf.below (by simp) (fun i hi h=>by simp [Value.ownBlock] at h;omega));clear hf hnw;go_wp2;go_ret;exact ⟨a3,c3,by first | rfl | simp,by simpa using hown', hbel⟩
set_option maxRecDepth 100000 in
set_option maxHeartbeats 3200000 in
theorem icopy_any (k:Int) (t:ByteArray) (a:Option Addr) (n cap:Nat) (fs:List Fld) (w:World) (hr:RF w a n cap fs) (hn:n<=100000) :
   Calls Tryz.prog 22 #[.agg #[.int .i64 k,.string t,.slice a n cap]] w fun e w' => ∃(a' : Option Addr) (cap' : Nat),e=.returned (.agg #[.int .i64 k,.string t,.slice a' n cap'])/\w'.ownsRow (w.heap.size+2) 53 2 (.slice a' n cap') n (flds fs)/\Below w.heap.size w w' := by
 obtain ⟨W2,hW2⟩:∃W2,W2=(w.alloc (.cells #[.int .i64 k,.string t,.slice a n cap] 24)).alloc (.cells #[.int .i64 0,.string ⟨#[]⟩,.slice none 0 0] 24):=⟨_,rfl⟩
 have hb2:Below w.heap.size w W2:=by rw [hW2];exact ((Below.refl _ _).alloc (Nat.le_refl _) _).alloc (by simp) _
 have hs2:W2.heap.size=w.heap.size+2:=by rw [hW2];simp
 have hB:∀q u,#[.int .i64 k,.string t,.slice a n cap][q]?=some u->W2.cell? ⟨w.heap.size,q,none⟩=some u:=fun q u h=>by rw [hW2,World.cell?_alloc_past _ _ _ (by simp),World.cell?_alloc_new];exact h
 have hC:∀q u,#[.int .i64 0,.string ⟨#[]⟩,.slice none 0 0][q]?=some u->W2.cell? ⟨w.heap.size+1,q,none⟩=some u:=fun q u h=>by
   rw [hW2,show w.heap.size+1=(w.alloc (.cells #[.int .i64 k,.string t,.slice a n cap] 24)).heap.size by simp,World.cell?_alloc_new];exact h
 have hfB:Blk W2 w.heap.size:=by rw [hW2];exact (Blk.new w _ _).fr (S:=fun _=>False) ((Fr.refl _ _).alloc _) (fun h=>h)
 have hfC:Blk W2 (w.heap.size+1):=by rw [hW2,show w.heap.size+1=(w.alloc (.cells #[.int .i64 k,.string t,.slice a n cap] 24)).heap.size by simp];exact Blk.new _ _ _
 have hr2:=hr.below hb2
 replace hW2:=Hd hW2
 replace hs2:=Hd hs2
 replace hr2:=Hd hr2
 replace hB:=Hd hB
 replace hC:=Hd hC
 clear hr
 go_enter Tryz.func22,Tryz.ntmps22
 go_upto_region 1 with fail
 rw [<-hW2.out]
 have g0:W2.cell? ⟨w.heap.size,0,none⟩=some (.int .i64 k):=hB.out 0 _ rfl
 have g1:W2.cell? ⟨w.heap.size,1,none⟩=some (.string t):=hB.out 1 _ rfl
 have g2:W2.cell? ⟨w.heap.size,2,none⟩=some (.slice a n cap):=hB.out 2 _ rfl
 go_wp2_with (go_at_call 45;refine (A4 a n cap fs _ hr2.out hn).mono ?_)
 rintro e w3 ⟨a3,c3,rfl,hown,hb3⟩
 rw [hs2.out] at hown
 have e0:=Aa hb3 g0
 have e1:=Aa hb3 g1
 have e2:=Aa hb3 g2
 have i0:=Aa hb3 (hC.out 0 _ rfl)
 have i1:=Aa hb3 (hC.out 1 _ rfl)
 have i2:=Aa hb3 (hC.out 2 _ rfl)
 have fB:=hfB.of_block (hb3.block _ (by rw [hs2.out];omega))
 have fC:=hfC.of_block (hb3.block _ (by rw [hs2.out];omega))
 have z2:=fB.frz 2 none
 have y0:=fC.frz 0 none
 have y1:=fC.frz 1 none
 have y2:=fC.frz 2 none
 have hbel:=hb2.trans (hb3.mono hb2.size)
 have hfin:∀x y z u,Fr (fun k=>k=w.heap.size\/k=w.heap.size+1) w3 ((((w3.setCell ⟨w.heap.size,2,none⟩ u).setCell ⟨w.heap.size+1,0,none⟩ x).setCell ⟨w.heap.size+1,1,none⟩ y).setCell ⟨w.heap.size+1,2,none⟩ z):=fun x y z u=>
   ((((Fr.refl _ w3).setCell (fun _=>Or.inl rfl) _).setCell (fun _=>Or.inr rfl) _).setCell (fun _=>Or.inr rfl) _).setCell (fun _=>Or.inr rfl) _
 replace hown:=Hd hown
 replace hfin:=Hd hfin
 clear g0 g1 g2
 go_wp2_with fail
 refine bodyPost_ret (v:=.agg #[.int .i64 k,.string t,.slice a3 n c3]) (by simp [results,Tryz.results22,go_sem,i0,i1,i2]) rfl ⟨a3,c3,rfl,?_,?_⟩
 · exact Ap hown.out (hfin.out _ _ _ _) (fun q hq=>by have:=(Af hown.out q hq).1;omega)
 · exact hbel.trans ((hfin.out _ _ _ _).below hbel.size (fun i hi h=>by omega))
end Go.Proofs.YteoalcmhdoopnaaGreatDoor
