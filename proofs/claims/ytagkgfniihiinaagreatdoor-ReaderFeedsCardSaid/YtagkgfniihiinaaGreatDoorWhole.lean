/- whole.Text and whole.Parse, at every number and every text. -/
import Derived.Test.YtagkgfniihiinaaGreatDoorJ54
import Derived.Test.YtagkgfniihiinaaGreatDoorNums
import Derived.Lib.SmallJoins
import Derived.Lib.LaidTab
import Derived.Lib.AppendIntMem
set_option linter.all false
namespace Go.Proofs.YtagkgfniihiinaaGreatDoor
open Go.RowKit Go.Joins
set_option maxRecDepth 100000 in
set_option maxHeartbeats 3200000 in
theorem F5 (s:ByteArray) (hm:s.size<=281474976710656) (w:World) (hN:Nums w):Calls Tryz.prog 88 #[.string s] w (Ga (wP s.data.toList) 11 w):=by
 cases ha:Lib.parseIntB 64 s.data.toList with
 | ok v=>
   have ha' := ha;rw [Lib.parseIntB_64] at ha';have hv:=Lib.atoiAll_bounds ha';obtain ⟨v0,v1⟩:=hv;obtain ⟨T,hT⟩:∃T:ByteArray,T=⟨(Lib.itoa v).toArray⟩:=⟨_,rfl⟩;by_cases he:T=s
   · have hw:wP s.data.toList=some v:=by unfold wP;rw [ha'];simp only;rw [if_pos];rw [<-he,hT]
     rw [hw];have hb:=str_eq he;have hb' : (T.toList != s.toList)=false:=by simp [bne,hb]
     replace ha:=Hd ha;replace hN:=Hd hN;replace hT:=Hd hT;clear hw ha' he
     go_enter Tryz.func88,Tryz.ntmps88
     go_wp2_with fail
     refine (Tryz.strconv_ParseInt_10_at64_ok s (by omega) v ha.out _).mono ?_;rintro e w1 ⟨rfl,hw1⟩;have hb1:Below w.heap.size w w1:=by
       rcases hw1 with rfl | ⟨t,rfl⟩
       · exact Below.refl _ _
       · exact below_bytesWorld _ _ _ _ (Nat.le_refl _)
     have hN1:=hN.out.below hb1;replace hN1:=Hd hN1;clear hw1;go_wp2_with fail
     refine (wtext_any v v0 v1 _ hN1.out).mono ?_;rw [<-hT.out];rintro e w2 ⟨rfl,hb2⟩;have hb3:=hb1.trans (hb2.mono hb1.size);clear hb1 hb2;go_wp2
     go_ret2
     exact Es rfl hb3
   · have hw:wP s.data.toList=none:=by unfold wP;rw [ha'];simp only;rw [if_neg];intro e;exact he (by rw [hT,e])
     rw [hw];have hb:=str_ne he;have hb' : (T.toList != s.toList)=true:=by simp [bne,hb]
     replace ha:=Hd ha;replace hN:=Hd hN;replace hT:=Hd hT;clear hw ha' he
     go_enter Tryz.func88,Tryz.ntmps88
     go_wp2_with fail
     refine (Tryz.strconv_ParseInt_10_at64_ok s (by omega) v ha.out _).mono ?_;rintro e w1 ⟨rfl,hw1⟩;have hb1:Below w.heap.size w w1:=by
       rcases hw1 with rfl | ⟨t,rfl⟩
       · exact Below.refl _ _
       · exact below_bytesWorld _ _ _ _ (Nat.le_refl _)
     have hN1:=hN.out.below hb1;replace hN1:=Hd hN1;clear hw1;go_wp2_with fail
     refine (wtext_any v v0 v1 _ hN1.out).mono ?_;rw [<-hT.out];rintro e w2 ⟨rfl,hb2⟩;have hb3:=hb1.trans (hb2.mono hb1.size);clear hb1 hb2;go_wp2
     go_ret2
     exact Aq rfl hb3
 | «syntax»=>
   have hw:wP s.data.toList=none:=by unfold wP;rw [<-Lib.parseIntB_64,ha]
   rw [hw];obtain ⟨tp,p,hs⟩:=hN.syn;replace ha:=Hd ha;replace hs:=Hd hs;clear hw hN
   go_enter Tryz.func88,Tryz.ntmps88
   go_wp2_with fail
   refine (Tryz.strconv_ParseInt_10_at64_syntax_var s hm ha.out tp p _ hs.out).mono ?_;rintro e w1 ⟨N,rfl,-,-,hb1⟩;go_wp2
   go_ret2
   exact Aq rfl hb1
 | range=>
   have hw:wP s.data.toList=none:=by unfold wP;rw [<-Lib.parseIntB_64,ha]
   rw [hw];obtain ⟨tp,p,hs⟩:=hN.rng;replace ha:=Hd ha;replace hs:=Hd hs;clear hw hN
   go_enter Tryz.func88,Tryz.ntmps88
   go_wp2_with fail
   refine (Tryz.strconv_ParseInt_10_at64_range_var s hm ha.out tp p _ hs.out).mono ?_;rintro e w1 ⟨N,rfl,-,-,hb1⟩;go_wp2
   go_ret2
   exact Aq rfl hb1
end Go.Proofs.YtagkgfniihiinaaGreatDoor
