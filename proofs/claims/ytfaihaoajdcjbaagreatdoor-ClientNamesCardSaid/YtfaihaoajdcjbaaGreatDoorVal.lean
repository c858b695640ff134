/- Values: how the document's functions go through them, and how they are copied. -/
import Derived.Test.YtfaihaoajdcjbaaGreatDoorProg
import Derived.Test.YtfaihaoajdcjbaaGreatDoorV
import Derived.Deep.LoopGhost
import Derived.Deep.QuietTactic
import Derived.BigQuiet
import Derived.Deep.DeepCutAuto
import Derived.Deep.RegionHeld3
import Derived.Deep.CutBlock
set_option linter.all false
namespace Go.Proofs.YtfaihaoajdcjbaaGreatDoor
open Go.RowKit
theorem eVal:Elem Tryz.prog 38 40 6 72:=Cw Tryz.underlying38 (by decide) (by decide) (by kernel_rfl)
theorem Ai:(Tryz.prog.info? 40).map (·.size)=some 6:=by kernel_rfl
theorem one6 (k:Int) (t:ByteArray) (i:Int) (r:Nat) (f:Bool) (a:Option Addr) (n cap:Nat):(#[Value.int .i64 k,.string t,.int .i64 i,.float .f64 r,.bool f,.slice a n cap]:Array Value).all (·.oneCell')=true:=by
 simp [Value.oneCell']
theorem Ck (k:Int) (t:ByteArray) (i:Int) (r:Nat) (f:Bool) (a:Option Addr) (n cap:Nat) :
   (Aj k t i r f a n cap).toArray=#[.int .i64 k,.string t,.int .i64 i,.float .f64 r,.bool f,.slice a n cap]:=rfl
theorem owns_blk {w:World} {B e size k n c:Nat} {ad:Addr} {xs:List Value} (h:w.ownsRow B e size (.slice (some ad) n c) k xs):ad=⟨ad.block,0,none⟩/\B<=ad.block/\Blk w ad.block:=by
 rcases h.2 with ⟨e,_⟩ | ⟨g,cap,cur,e,hg,hh,_⟩
 · cases e
 · cases e;exact ⟨rfl,hg,_,_,hh⟩
set_option maxRecDepth 100000 in
set_option maxHeartbeats 3200000 in
theorem Fv (v:V):∀(k:Int) (t:ByteArray) (i:Int) (r:Nat) (f:Bool) (a:Option Addr) (n cap:Nat) (w:World),RV w.cell? (Aj k t i r f a n cap) v->v.count<=100000000 ->
   Calls Tryz.prog 48 #[.agg #[.int .i64 k,.string t,.int .i64 i,.float .f64 r,.bool f,.slice a n cap]] w fun e w' =>
     ∃(a' : Option Addr) (cap' : Nat),e=.returned (.agg #[.int .i64 k,.string t,.int .i64 i,.float .f64 r,.bool f,.slice a' n cap'])/\RV (Ar w.heap.size w') (Aj k t i r f a' n cap') v/\Below w.heap.size w w' /\ ∀ad,a' = some ad->ad=⟨ad.block,0,none⟩/\w.heap.size+2<=ad.block/\Blk w' ad.block:=by
 induction v using V.ind with
 | h v ih=>
 intro k t i r f a n cap w hv hcnt;replace ih:=Hd ih;obtain ⟨rfl,rfl,rfl,rfl,rfl,hnl⟩:=hv.len;have hll:v.list.length<v.count:=by cases v;have:=V.length_le (V.list (.mk ‹_› ‹_› ‹_› ‹_› ‹_› ‹_›));simp only [V.count,V.list] at this ⊢;omega
 have hnb:n<100000000:=by omega
 replace hnl:=Hd hnl;clear hll;obtain ⟨W2,hW2⟩:∃W2,W2=(w.alloc (.cells #[.int .i64 v.kind,.string v.text,.int .i64 v.int,.float .f64 v.real,.bool v.flag,.slice a n cap] 40)).alloc (.cells #[.int .i64 0,.string ⟨#[]⟩,.int .i64 0,.float .f64 0,.bool false,.slice none 0 0] 40):=⟨_,rfl⟩;have hb2:Below w.heap.size w W2:=by rw [hW2];exact ((Below.refl _ _).alloc (Nat.le_refl _) _).alloc (by simp) _
 have hs2:W2.heap.size=w.heap.size+2:=by rw [hW2];simp
 have hB:∀q u,#[.int .i64 v.kind,.string v.text,.int .i64 v.int,.float .f64 v.real,.bool v.flag,.slice a n cap][q]?=some u->W2.cell? ⟨w.heap.size,q,none⟩=some u:=fun q u h=>by rw [hW2,World.cell?_alloc_past _ _ _ (by simp),World.cell?_alloc_new];exact h
 have hC:∀q u,#[.int .i64 0,.string ⟨#[]⟩,.int .i64 0,.float .f64 0,.bool false,.slice none 0 0][q]?=some u->W2.cell? ⟨w.heap.size+1,q,none⟩=some u:=fun q u h=>by
   rw [hW2,show w.heap.size+1=(w.alloc (.cells #[.int .i64 v.kind,.string v.text,.int .i64 v.int,.float .f64 v.real,.bool v.flag,.slice a n cap] 40)).heap.size by simp,World.cell?_alloc_new];exact h
 have hfB:Blk W2 w.heap.size:=by rw [hW2];exact (Blk.new w _ _).fr (S:=fun _=>False) ((Fr.refl _ _).alloc _) (fun h=>h)
 have hfC:Blk W2 (w.heap.size+1):=by rw [hW2,show w.heap.size+1=(w.alloc (.cells #[.int .i64 v.kind,.string v.text,.int .i64 v.int,.float .f64 v.real,.bool v.flag,.slice a n cap] 40)).heap.size by simp];exact Blk.new _ _ _
 replace hW2:=Hd hW2;replace hs2:=Hd hs2;replace hB:=Hd hB;replace hC:=Hd hC
 go_enter Tryz.func48,Tryz.ntmps48
 go_wp2_with fail
 rw [<-hW2.out];go_loopw [3,9] (fun s3 i wr=>∃(j:Nat) (css:List (List Value)),j<=n/\i=.int .i64 j/\wr.ownsRow (w.heap.size+2) 40 6 s3 j css.flatten/\RVs (nf (w.heap.size+2) s3.ownBlock wr) css (v.list.take j)/\Below W2.heap.size W2 wr) (fun _ i _=>n - (intOf i).toNat)
 case atStart=>exact ⟨0,[],Nat.zero_le _,rfl,World.ownsRow_nil _ _ _ _,RVs.nil _,Below.refl _ _⟩
 case round=>
   obtain ⟨j,css,hj,rfl,hown,hrs,hbel⟩:=hrel;have hbel0:=hb2.trans (hbel.mono (by rw [hs2.out];omega));by_cases hlt:j<n
   · obtain ⟨b,o,hjv,a', cap', rfl,hx,d0,d1,d2,d3,d4,d5⟩:=hv.elem hlt
     have hbw:=World.block_lt_of_cell? _ _ d0;have up:∀(q:Nat) u,w.cell? ⟨b,q,none⟩=some u->wr.cell? ⟨b,q,none⟩=some u:=fun q u h=>by rw [hbel0.cell (by exact hbw)];exact h
     replace d0:=up _ _ d0;replace d1:=up _ _ d1;replace d2:=up _ _ d2;replace d3:=up _ _ d3;replace d4:=up _ _ d4;replace d5:=up _ _ d5;have hts:v.list.take (j+1)=v.list.take j++[v.list[j]]:=List.take_succ_eq_append_getElem hjv;have hmem:v.list[j]∈v.list:=List.getElem_mem hjv;have hxc:(v.list[j]).count<=100000000:=by
       have:=V.count_mem hmem;have:V.countL v.list<=v.count:=by cases v;simp only [V.count,V.list];omega
       omega
     obtain ⟨x,hxe⟩:∃x,x=v.list[j]:=⟨_,rfl⟩;rw [<-hxe] at hx d0 d1 d2 d3 d4 d5 hts hmem hxc;have hx' := Hd (hx.mono (Aa (hbel0.trans ((Below.refl wr.heap.size wr).alloc (Nat.le_refl _) (.cells #[.int .i64 x.kind,.string x.text,.int .i64 x.int,.float .f64 x.real,.bool x.flag,.slice a' x.list.length cap'] 40) |>.mono hbel0.size))));replace hts:=Hd hts;replace hmem:=Hd hmem;replace hxe:=Hd hxe;replace hxc:=Hd hxc;have hws:w.heap.size+2<=wr.heap.size:=by have:=hbel.size;rw [hs2.out] at this;exact this
     clear up hx hv;go_wp2_with fail
     refine (ih.out x hmem.out _ _ _ _ _ _ _ _ _ hx'.out hxc.out).mono ?_;rintro e w3 ⟨a3,c3,rfl,hr3,hb3,_⟩;have hb3' : Below wr.heap.size wr w3:=((Below.refl _ _).alloc (Nat.le_refl _) _).trans (hb3.mono (by simp));have hown3:=Db hown (Fr.of_below hb3') (fun k hk=>by have:=(Am hown k hk).2;omega);have hown3b:=Am hown;have hrs3:=hrs.mono (nf_below (B:=w.heap.size+2) (own:=u3.ownBlock) hb3');have hr3' := hr3.mono (Er (B:=w.heap.size+2) (own:=u3.ownBlock) (by simp;omega) (fun k hk=>by have:=(hown3b k hk).2;simp;omega));have hws3:w.heap.size+2<=w3.heap.size:=Nat.le_trans hws hb3'.size;have hbel3:Below W2.heap.size W2 w3:=hbel.trans (hb3'.mono hbel.size);replace hown3b:=Hd hown3b;clear hr3 hb3 hb3' hown hrs hbel hbel0 d0 d1 d2 d3 d4 d5 hws;have hjn9:j<1000000000:=by omega
     go_wp2_with (at_builtin;refine Fg rfl rfl eVal rfl hown3 rfl rfl rfl hjn9 hws3 ?_)
     intro v' w4 hown4 hf4 hn4;have hbel4:Below W2.heap.size W2 w4:=Below.of_append hbel3 hf4 (fun k hk=>by have:=(hown3b.out k hk).1;rw [hs2.out];exact this) (by rw [hs2.out];exact hws3);have hrs4:=(hrs3.snoc hr3').mono (Fq hf4 hn4);clear hown3 hrs3 hr3' hbel3 hf4 hn4;go_wp2
     go_roundw
     case rel=>exact ⟨j+1,css++[Aj x.kind x.text x.int x.real x.flag a3 x.list.length c3],by omega,by go_num,by simpa [Aj] using hown4,by rw [hts.out];exact hrs4,hbel4⟩
     case measure=>simp [intOf];omega
   · have hjn:j=n:=by omega
     subst hjn;rw [hnl.out,List.take_length] at hrs;obtain ⟨a3,c3,rfl⟩:=(Reads.of_owns hown).shape;have up:∀(b q:Nat) u,b<w.heap.size+2->W2.cell? ⟨b,q,none⟩=some u->wr.cell? ⟨b,q,none⟩=some u:=fun b q u hlt h=>by rw [hbel.cell (by rw [hs2.out];exact hlt)];exact h
     have e0:=up _ _ _ (by omega) (hB.out 0 _ rfl);have e1:=up _ _ _ (by omega) (hB.out 1 _ rfl);have e2:=up _ _ _ (by omega) (hB.out 2 _ rfl);have e3:=up _ _ _ (by omega) (hB.out 3 _ rfl);have e4:=up _ _ _ (by omega) (hB.out 4 _ rfl);have e5:=up _ _ _ (by omega) (hB.out 5 _ rfl);have g0:=up _ _ _ (by omega) (hC.out 0 _ rfl);have g1:=up _ _ _ (by omega) (hC.out 1 _ rfl);have g2:=up _ _ _ (by omega) (hC.out 2 _ rfl);have g3:=up _ _ _ (by omega) (hC.out 3 _ rfl);have g4:=up _ _ _ (by omega) (hC.out 4 _ rfl);have g5:=up _ _ _ (by omega) (hC.out 5 _ rfl);have fB:=hfB.of_block (hbel.block _ (by rw [hs2.out];omega));have fC:=hfC.of_block (hbel.block _ (by rw [hs2.out];omega));have hr:=Hd (RV.of_row hnl.out hown (hrs.mono (nf_newer)));clear up hv;have z5:=fB.frz 5 none
     have hrA:(wr.setCell ⟨w.heap.size,5,none⟩ (.slice a3 j c3)).rangeAt w.heap.size 0 [.int .i64 v.kind,.string v.text,.int .i64 v.int,.float .f64 v.real,.bool v.flag,.slice a3 j c3]:=
       Cf (by rw [Ab (by simp)];exact e0) (by rw [Ab (by simp)];exact e1) (by rw [Ab (by simp)];exact e2) (by rw [Ab (by simp)];exact e3) (by rw [Ab (by simp)];exact e4) (Af e5)
     have hrC:(wr.setCell ⟨w.heap.size,5,none⟩ (.slice a3 j c3)).rangeAt (w.heap.size+1) 0 [.int .i64 0,.string ⟨#[]⟩,.int .i64 0,.float .f64 0,.bool false,.slice none 0 0]:=
       Cf (by rw [Ab (by simp)];exact g0) (by rw [Ab (by simp)];exact g1) (by rw [Ab (by simp)];exact g2) (by rw [Ab (by simp)];exact g3) (by rw [Ab (by simp)];exact g4) (by rw [Ab (by simp)];exact g5)
     have htC:=As (n:=6) hrC (fC.setCell _ _) rfl;have hrR:(((wr.setCell ⟨w.heap.size,5,none⟩ (.slice a3 j c3)).setCells (w.heap.size+1) 0 [.int .i64 v.kind,.string v.text,.int .i64 v.int,.float .f64 v.real,.bool v.flag,.slice a3 j c3])).rangeAt (w.heap.size+1) 0 [.int .i64 v.kind,.string v.text,.int .i64 v.int,.float .f64 v.real,.bool v.flag,.slice a3 j c3]:=
       World.rangeAt_setCells_same _ _ _ _ htC
     have hfin:Fr (fun k=>k=w.heap.size\/k=w.heap.size+1) wr ((wr.setCell ⟨w.heap.size,5,none⟩ (.slice a3 j c3)).setCells (w.heap.size+1) 0 [.int .i64 v.kind,.string v.text,.int .i64 v.int,.float .f64 v.real,.bool v.flag,.slice a3 j c3]):=
       Fr.setCells (fun _=>Or.inr rfl) _ _ _ ((Fr.refl _ wr).setCell (fun _=>Or.inl rfl) _)
     replace hrA:=Hd hrA;replace hrC:=Hd hrC;replace htC:=Hd htC;replace hrR:=Hd hrR
     go_wp2_with (first
       | (refine wpList_load_mid rfl 40 _ rfl w.heap.size 0 rfl _ _ hrA.out Tryz.underlying40 rfl Ai ?_)
       | (refine wpList_store_mid rfl 40 _ _ rfl (w.heap.size+1) 0 _ rfl rfl htC.out Ai (one6 _ _ _ _ _ _ _ _) ?_))
     refine bodyPost_ret (Ax (v:=.agg #[.int .i64 v.kind,.string v.text,.int .i64 v.int,.float .f64 v.real,.bool v.flag,.slice a3 j c3]) rfl rfl (run_loadVar_mid (P:=Tryz.prog) _ _ 0 40 _ _ hrR.out Tryz.underlying40 rfl Ai)) rfl ⟨a3,c3,rfl,?_,?_,?_⟩
     · refine hr.out.mono (fun ad u h=>?_)
       obtain ⟨h1,h2⟩:=A4 h;unfold Ar;rw [if_neg (by omega)];exact hfin.cell h1 (fun e=>by omega)
     · exact hbel0.trans (hfin.below hbel0.size (fun i hi h=>by omega))
     · rintro ad rfl
       obtain ⟨q1,q2,q3⟩:=owns_blk hown;exact ⟨q1,q2,q3.fr hfin (fun h=>by omega)⟩
theorem copy_any (v:V) (k:Int) (t:ByteArray) (i:Int) (r:Nat) (f:Bool) (a:Option Addr) (n cap:Nat) (w:World) (hv:RV w.cell? (Aj k t i r f a n cap) v) (hc:v.count<=100000000) :
   Calls Tryz.prog 48 #[.agg #[.int .i64 k,.string t,.int .i64 i,.float .f64 r,.bool f,.slice a n cap]] w fun e w' =>
     ∃(a' : Option Addr) (cap' : Nat),e=.returned (.agg #[.int .i64 k,.string t,.int .i64 i,.float .f64 r,.bool f,.slice a' n cap'])/\RV (Ar w.heap.size w') (Aj k t i r f a' n cap') v/\Below w.heap.size w w' :=
 (Fv v k t i r f a n cap w hv hc).mono fun e w' ⟨a', cap', h1,h2,h3,_⟩=>⟨a', cap', h1,h2,h3⟩
theorem f64bits_run (r:Nat) (w:World):(callFunc 165 #[.float .f64 r]).run Tryz.prog w=.ok (.value (.int .u64 r)) w:=by kernel_rfl
end Go.Proofs.YtfaihaoajdcjbaaGreatDoor
