/- The number that a text is: Go's own parsing, the numeral, and the document's digit by digit are one. No program in sight. -/
import Derived.Test.YtfaihaoajdcjbaaGreatDoorBase
import Derived.Lib.ParseIntBTie
import Derived.Lib.ItoaNum
import Derived.Test.YtfaihaoajdcjbaaGreatDoorShelf
import Derived.Test.YtfaihaoajdcjbaaGreatDoorProg
import Derived.Lib.IndexBytes
import Derived.Deep.LoopGhost
import Derived.Test.YtfaihaoajdcjbaaGreatDoorNums
import Derived.Lib.SmallJoins
import Derived.Lib.LaidTab
import Derived.Lib.AppendIntMem
set_option linter.all false
namespace Go.Proofs.YtfaihaoajdcjbaaGreatDoor
open Go.RowKit Go
def wP (l:List UInt8):Option Int:=match Lib.atoiAll l with
 | .ok v=>if Lib.itoa v=l then some v else none
 | _=>none
def step (a:Nat) (c:UInt8):Nat:=a * 10+(c.toNat - 48)
end Go.Proofs.YtfaihaoajdcjbaaGreatDoor
namespace Go.Proofs.YtfaihaoajdcjbaaGreatDoor
open Go.RowKit
def NumOr (r:Option Int) (err:Int) (w:World) (e:Ending) (w' : World):Prop:=(e=.returned (.tuple #[.int .i64 (r.getD 0),.int .i64 (if r.isSome then 0 else err)]))/\Below w.heap.size w w'
theorem D0 {w w' : World} {err:Int} {e:Ending} (h:e=.returned (.tuple #[.int .i64 0,.int .i64 err])) (hb:Below w.heap.size w w'):NumOr none err w e w' := ⟨h,hb⟩
theorem numOr_some {v:Int} {w w' : World} {err:Int} {e:Ending} (h:e=.returned (.tuple #[.int .i64 v,.int .i64 0])) (hb:Below w.heap.size w w'):NumOr (some v) err w e w' := ⟨h,hb⟩
end Go.Proofs.YtfaihaoajdcjbaaGreatDoor
namespace Go.Proofs.YtfaihaoajdcjbaaGreatDoor
open Go.RowKit Go.Joins
set_option maxRecDepth 100000 in
set_option maxHeartbeats 3200000 in
theorem Dt (s:ByteArray) (hm:s.size<=281474976710656) (w:World) (hN:Nums w):Calls Tryz.prog 123 #[.string s] w (NumOr (wP s.data.toList) 11 w):=by
 cases ha:Lib.parseIntB 64 s.data.toList with
 | ok v=>
   have ha' := ha;rw [Lib.parseIntB_64] at ha';have hv:=Lib.atoiAll_bounds ha';obtain ⟨v0,v1⟩:=hv;obtain ⟨T,hT⟩:∃T:ByteArray,T=⟨(Lib.itoa v).toArray⟩:=⟨_,rfl⟩;by_cases he:T=s
   · have hw:wP s.data.toList=some v:=by unfold wP;rw [ha'];simp only;rw [if_pos];rw [<-he,hT]
     rw [hw];have hb:=str_eq he;have hb' : (T.toList != s.toList)=false:=by simp [bne,hb]
     replace ha:=Hd ha;replace hN:=Hd hN;replace hT:=Hd hT;clear hw ha' he
     go_enter Tryz.func123,Tryz.ntmps123
     go_wp2_with fail
     refine (Tryz.strconv_ParseInt_10_at64_ok s (by omega) v ha.out _).mono ?_;rintro e w1 ⟨rfl,hw1⟩;have hb1:Below w.heap.size w w1:=by
       rcases hw1 with rfl | ⟨t,rfl⟩
       · exact Below.refl _ _
       · exact below_bytesWorld _ _ _ _ (Nat.le_refl _)
     have hN1:=Hd (hN.out.below hb1);clear hw1;go_wp2_with fail
     refine (Dl v v0 v1 _ hN1.out).mono ?_;rw [<-hT.out];rintro e w2 ⟨rfl,hb2⟩;have hb3:=hb1.trans (hb2.mono hb1.size);clear hb1 hb2;go_wp2
     go_ret2
     exact numOr_some rfl hb3
   · have hw:wP s.data.toList=none:=by unfold wP;rw [ha'];simp only;rw [if_neg];intro e;exact he (by rw [hT,e])
     rw [hw];have hb:=str_ne he;have hb' : (T.toList != s.toList)=true:=by simp [bne,hb]
     replace ha:=Hd ha;replace hN:=Hd hN;replace hT:=Hd hT;clear hw ha' he
     go_enter Tryz.func123,Tryz.ntmps123
     go_wp2_with fail
     refine (Tryz.strconv_ParseInt_10_at64_ok s (by omega) v ha.out _).mono ?_;rintro e w1 ⟨rfl,hw1⟩;have hb1:Below w.heap.size w w1:=by
       rcases hw1 with rfl | ⟨t,rfl⟩
       · exact Below.refl _ _
       · exact below_bytesWorld _ _ _ _ (Nat.le_refl _)
     have hN1:=Hd (hN.out.below hb1);clear hw1;go_wp2_with fail
     refine (Dl v v0 v1 _ hN1.out).mono ?_;rw [<-hT.out];rintro e w2 ⟨rfl,hb2⟩;have hb3:=hb1.trans (hb2.mono hb1.size);clear hb1 hb2;go_wp2
     go_ret2
     exact D0 rfl hb3
 | «syntax»=>
   have hw:wP s.data.toList=none:=by unfold wP;rw [<-Lib.parseIntB_64,ha]
   rw [hw];obtain ⟨tp,p,hs⟩:=hN.syn;replace ha:=Hd ha;replace hs:=Hd hs;clear hw hN
   go_enter Tryz.func123,Tryz.ntmps123
   go_wp2_with fail
   refine (Tryz.strconv_ParseInt_10_at64_syntax_var s hm ha.out tp p _ hs.out).mono ?_;rintro e w1 ⟨N,rfl,-,-,hb1⟩;go_wp2
   go_ret2
   exact D0 rfl hb1
 | range=>
   have hw:wP s.data.toList=none:=by unfold wP;rw [<-Lib.parseIntB_64,ha]
   rw [hw];obtain ⟨tp,p,hs⟩:=hN.rng;replace ha:=Hd ha;replace hs:=Hd hs;clear hw hN
   go_enter Tryz.func123,Tryz.ntmps123
   go_wp2_with fail
   refine (Tryz.strconv_ParseInt_10_at64_range_var s hm ha.out tp p _ hs.out).mono ?_;rintro e w1 ⟨N,rfl,-,-,hb1⟩;go_wp2
   go_ret2
   exact D0 rfl hb1
end Go.Proofs.YtfaihaoajdcjbaaGreatDoor
