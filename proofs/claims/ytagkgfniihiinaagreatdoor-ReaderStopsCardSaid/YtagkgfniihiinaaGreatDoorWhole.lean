/- whole.Text and whole.Parse, at every number and every text. -/
import Derived.Test.YtagkgfniihiinaaGreatDoorJ60
import Derived.Test.YtagkgfniihiinaaGreatDoorNums
set_option linter.all false
namespace Go.Proofs.YtagkgfniihiinaaGreatDoor
open Go.RowKit Go.Joins
set_option maxRecDepth 100000 in
set_option maxHeartbeats 3200000 in
theorem wparse_any (s:ByteArray) (hm:s.size<=281474976710656) (w:World) (hN:Nums w):Calls Tryz.prog 88 #[.string s] w (NumOr (wP s.data.toList) 11 w):=by
 cases ha:Lib.parseIntB 64 s.data.toList with
 | ok v=>
  have b := ha;rw [Lib.parseIntB_64] at b;have hv:=Lib.atoiAll_bounds b;obtain ⟨v0,v1⟩:=hv;obtain ⟨T,hT⟩:∃T:ByteArray,T=⟨(Lib.itoa v).toArray⟩:=⟨_,rfl⟩;by_cases he:T=s
  ·have hw:wP s.data.toList=some v:=by unfold wP;rw [b];simp only;rw [if_pos];rw [<-he,hT]
   rw [hw];have hb:=str_eq he;have h : (T.toList != s.toList)=false:=by simp [bne,hb]
   replace ha:=Hd ha;replace hN:=Hd hN;replace hT:=Hd hT;clear hw b he
   go_enter Tryz.func88,Tryz.ntmps88
   go_wp2_with fail
   refine (Tryz.strconv_ParseInt_10_at64_ok s (by omega) v ha.out _).mono ?_;rintro e w1 ⟨rfl,c⟩;have a:Below w.heap.size w w1:=by
    rcases c with rfl | ⟨t,rfl⟩
    ·exact Below.refl _ _
    ·exact below_bytesWorld _ _ _ _ (Nat.le_refl _)
   have f:=Hd (hN.out.below a);clear c;go_wp2_with fail
   refine (wtext_any v v0 v1 _ f.out).mono ?_;rw [<-hT.out];rintro e w2 ⟨rfl,d⟩;have g:=a.trans (d.mono a.size);clear a d;go_wp2
   go_ret2
   exact F2 rfl g
  ·have hw:wP s.data.toList=none:=by unfold wP;rw [b];simp only;rw [if_neg];intro e;exact he (by rw [hT,e])
   rw [hw];have hb:=str_ne he;have h : (T.toList != s.toList)=true:=by simp [bne,hb]
   replace ha:=Hd ha;replace hN:=Hd hN;replace hT:=Hd hT;clear hw b he
   go_enter Tryz.func88,Tryz.ntmps88
   go_wp2_with fail
   refine (Tryz.strconv_ParseInt_10_at64_ok s (by omega) v ha.out _).mono ?_;rintro e w1 ⟨rfl,c⟩;have a:Below w.heap.size w w1:=by
    rcases c with rfl | ⟨t,rfl⟩
    ·exact Below.refl _ _
    ·exact below_bytesWorld _ _ _ _ (Nat.le_refl _)
   have f:=Hd (hN.out.below a);clear c;go_wp2_with fail
   refine (wtext_any v v0 v1 _ f.out).mono ?_;rw [<-hT.out];rintro e w2 ⟨rfl,d⟩;have g:=a.trans (d.mono a.size);clear a d;go_wp2
   go_ret2
   exact Ap rfl g
 | «syntax»=>
  have hw:wP s.data.toList=none:=by unfold wP;rw [<-Lib.parseIntB_64,ha]
  rw [hw];obtain ⟨tp,p,hs⟩:=hN.syn;replace ha:=Hd ha;replace hs:=Hd hs;clear hw hN
  go_enter Tryz.func88,Tryz.ntmps88
  go_wp2_with fail
  refine (Tryz.strconv_ParseInt_10_at64_syntax_var s hm ha.out tp p _ hs.out).mono ?_;rintro e w1 ⟨N,rfl,-,-,a⟩;go_wp2
  go_ret2
  exact Ap rfl a
 | range=>
  have hw:wP s.data.toList=none:=by unfold wP;rw [<-Lib.parseIntB_64,ha]
  rw [hw];obtain ⟨tp,p,hs⟩:=hN.rng;replace ha:=Hd ha;replace hs:=Hd hs;clear hw hN
  go_enter Tryz.func88,Tryz.ntmps88
  go_wp2_with fail
  refine (Tryz.strconv_ParseInt_10_at64_range_var s hm ha.out tp p _ hs.out).mono ?_;rintro e w1 ⟨N,rfl,-,-,a⟩;go_wp2
  go_ret2
  exact Ap rfl a
