/- item.Get, item.Put. -/
import Derived.Test.YteoalcmhdoopnaaGreatDoorItAlive
import Derived.Test.YteoalcmhdoopnaaGreatDoorJ23
import Derived.Test.YteoalcmhdoopnaaGreatDoorBase
import Derived.Laws.CopyRow
import Derived.Lib.AppendZerosOnto
import Derived.Laws.CopyOwn
import Derived.Deep.AppendSrc
import Derived.Lib.Overlaps
import Derived.StillTailTactics
import Derived.Laws.OwnMore
namespace Go.Proofs.YteoalcmhdoopnaaGreatDoor
open Go.RowKit
theorem fr3 (h:Nat) (w6:World) (x y z:Value):Fr (fun q=>q=h+1) w6 (((w6.setCell ⟨h+1,0,none⟩ x).setCell ⟨h+1,1,none⟩ y).setCell ⟨h+1,2,none⟩ z):=
 ((((Fr.refl (fun q=>q=h+1) w6).setCell (p:=⟨h+1,0,none⟩) (fun _=>rfl) _).setCell (p:=⟨h+1,1,none⟩) (fun _=>rfl) _).setCell (p:=⟨h+1,2,none⟩) (fun _=>rfl) _)
def FitsP (k:Int) (t:ByteArray) (fs:List Fld):Prop:=C8 k t fs\/k=0/\t=⟨#[]⟩/\fs=[]
set_option maxRecDepth 100000 in
set_option maxHeartbeats 3200000 in
theorem fits_any (k:Int) (t:ByteArray) (a:Option Addr) (n cap:Nat) (fs:List Fld) (w:World) (hr:RF w a n cap fs) (hn:n<=100000000) :
   Calls Tryz.prog 8 #[.agg #[.int .i64 k,.string t,.slice a n cap]] w (QP w (FitsP k t fs)):=by
 have hl:=hr.len
 have hal:=(Below.refl w.heap.size w).alloc (Nat.le_refl _) (.cells #[.int .i64 k,.string t,.slice a n cap] 24)
 have hx:=hr.below hal
 have g0:=World.cell?_alloc_new w #[.int .i64 k,.string t,.slice a n cap] 24 0
 have g1:=World.cell?_alloc_new w #[.int .i64 k,.string t,.slice a n cap] 24 1
 have g2:=World.cell?_alloc_new w #[.int .i64 k,.string t,.slice a n cap] 24 2
 obtain ⟨q,hq⟩:∃q:Bool,q=true ↔ C8 k t fs:=by
   by_cases h:C8 k t fs
   · exact ⟨true,by simp [h]⟩
   · exact ⟨false,by simp [h]⟩
 have hrr:=qp_q (rright_any k t a n cap fs _ hx hn) hq
 replace hrr:=Hd hrr
 replace hal:=Hd hal
 replace hl:=Hd hl
 replace g0:=Hd g0
 replace g1:=Hd g1
 replace g2:=Hd g2
 clear hr hx
 cases q with
 | true=>
   have hp:FitsP k t fs:=Or.inl (hq.1 rfl);replace hp:=Hd hp;clear hq
   go_enter Tryz.func8,Tryz.ntmps8
   go_wp2_with fail
   refine hrr.out.mono ?_;rintro e w1 ⟨rfl,hb1⟩;have hbel:=hal.out.trans (hb1.mono hal.out.size);clear hb1;go_wp2;go_ret;exact Fy rfl hp.out hbel
 | false=>
   have hp:FitsP k t fs ↔ k=0/\t=⟨#[]⟩/\n=0:=by
     unfold FitsP;rw [<-hl.out,List.length_eq_zero_iff];constructor
     · rintro (h | h)
       · have:=hq.2 h;cases this
       · exact h
     · exact Or.inr
   replace hp:=Hd hp;clear hq;by_cases k0:k=0
   case neg=>
     have k0' : (k == 0)=false:=by simpa using k0
     replace k0:=Hd k0
     go_enter Tryz.func8,Tryz.ntmps8
     go_wp2_with fail
     refine hrr.out.mono ?_;rintro e w1 ⟨rfl,hb1⟩;have hbel:=hal.out.trans (hb1.mono hal.out.size);have h0:w1.cell? ⟨w.heap.size,0,none⟩=some (.int .i64 k):=Aa hb1 g0.out;clear hb1;go_wp2;go_ret;exact Ba rfl (fun h=>k0.out (hp.out.1 h).1) hbel
   have k0' : (k == 0)=true:=by simpa using k0
   replace k0:=Hd k0;by_cases t0:t=⟨#[]⟩
   case neg=>
     obtain ⟨c1a,c1b,c1c⟩:=empty_facts t0;replace t0:=Hd t0
     go_enter Tryz.func8,Tryz.ntmps8
     go_wp2_with fail
     refine hrr.out.mono ?_;rintro e w1 ⟨rfl,hb1⟩;have hbel:=hal.out.trans (hb1.mono hal.out.size);have h0:w1.cell? ⟨w.heap.size,0,none⟩=some (.int .i64 k):=Aa hb1 g0.out;have h1:w1.cell? ⟨w.heap.size,1,none⟩=some (.string t):=Aa hb1 g1.out;clear hb1;go_wp2;go_ret;exact Ba rfl (fun h=>t0.out (hp.out.1 h).2.1) hbel
   subst t0;by_cases n0:n=0
   · have n0' : ((n:Int) == 0)=true:=by simp [n0]
     replace n0:=Hd n0
     go_enter Tryz.func8,Tryz.ntmps8
     go_wp2_with fail
     refine hrr.out.mono ?_;rintro e w1 ⟨rfl,hb1⟩;have hbel:=hal.out.trans (hb1.mono hal.out.size);have h0:w1.cell? ⟨w.heap.size,0,none⟩=some (.int .i64 k):=Aa hb1 g0.out;have h1:w1.cell? ⟨w.heap.size,1,none⟩=some (.string ⟨#[]⟩):=Aa hb1 g1.out;have h2:w1.cell? ⟨w.heap.size,2,none⟩=some (.slice a n cap):=Aa hb1 g2.out;clear hb1;go_wp2;go_ret;exact Fy rfl (hp.out.2 ⟨k0.out,by trivial,n0.out⟩) hbel
   · have n0' : ((n:Int) == 0)=false:=by simp [n0]
     replace n0:=Hd n0
     go_enter Tryz.func8,Tryz.ntmps8
     go_wp2_with fail
     refine hrr.out.mono ?_;rintro e w1 ⟨rfl,hb1⟩;have hbel:=hal.out.trans (hb1.mono hal.out.size);have h0:w1.cell? ⟨w.heap.size,0,none⟩=some (.int .i64 k):=Aa hb1 g0.out;have h1:w1.cell? ⟨w.heap.size,1,none⟩=some (.string ⟨#[]⟩):=Aa hb1 g1.out;have h2:w1.cell? ⟨w.heap.size,2,none⟩=some (.slice a n cap):=Aa hb1 g2.out;clear hb1;go_wp2;go_ret;exact Ba rfl (fun h=>n0.out (hp.out.1 h).2.2) hbel
end Go.Proofs.YteoalcmhdoopnaaGreatDoor
