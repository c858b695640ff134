/- WireBytes: its walk. -/
import Derived.Test.YtagkgfniihiinaaGreatDoorRByte
import Derived.Test.YtagkgfniihiinaaGreatDoorJ8
namespace Go.Proofs.YtagkgfniihiinaaGreatDoor
open Go.RowKit Go.Joins
def wbR (i : Nat) (w w' : World) : Prop:=match i with | 4 | 9 => Below w.heap.size w w' | _ => w' = w
def wdR (i : Nat) (w w' : World) : Prop:=match i with | 2 | 3 | 6 | 8 | 12 | 15 => Below w.heap.size w w' | _ => w' = w
namespace R2
set_option maxRecDepth 100000 in
set_option maxHeartbeats 6400000 in
theorem wbytesL_any (u : V) (ad : Option Addr) (cap : Nat) (p : Int) (w : World) (hu : RV w.cell? (Ae u.kind u.text u.int u.real u.flag ad u.list.length cap) u) (su : u.sized) (ru : u.ranged) (hN : Nums w) (hF : Flo w) (hP : Par w) (hR : Rng w) :
   Calls Tryz.prog 10 #[.agg #[.int .i64 u.kind,.string u.text,.int .i64 u.int,.float .f64 u.real,.bool u.flag,.slice ad u.list.length cap],.int .i64 p] w
     fun e w' => e = .returned (.bool true) /\ Below w.heap.size w w':=by
 obtain ⟨W2,hW2⟩ : ∃ W2,W2 = w.alloc (.cells #[.int .i64 u.kind,.string u.text,.int .i64 u.int,.float .f64 u.real,.bool u.flag,.slice ad u.list.length cap] 26):=⟨_,rfl⟩
 have hb0 : Below w.heap.size w W2:=by rw [hW2]; exact (Below.refl _ _).alloc (Nat.le_refl _) _
 obtain ⟨bu,ebu⟩ : ∃ bu,bu = w.heap.size:=⟨_,rfl⟩
 have hru : W2.rangeAt bu 0 [.int .i64 u.kind,.string u.text,.int .i64 u.int,.float .f64 u.real,.bool u.flag,.slice ad u.list.length cap]:=by
   rw [hW2,ebu]; intro q x hq;rw [Nat.zero_add,World.cell?_alloc_new]; simpa using hq
 replace hu:=hu.mono (Aa hb0)
 have hL : LaidV W2.heap.size W2:=((LaidV.of hN hF).below hb0 (Nat.le_refl _)).mono hb0.size
 have hP2 : Par W2:=hP.below hb0
 have hR2 : Rng W2:=hR.below hb0
 have hal:=alive04_any W2 hL.nums
 replace hu:=Hd hu
 replace hru:=Hd hru
 replace hL:=Hd hL
 replace hP2:=Hd hP2
 replace hR2:=Hd hR2
 replace hb0:=Hd hb0
 replace hW2:=Hd hW2
 replace hal:=Hd hal
 replace ru:=Hd ru
 replace su:=Hd su
 clear hN hF hP hR
 go_enter Tryz.func10,Tryz.ntmps10
 go_wp2_with fail
 rw [<- hW2.out,<- ebu]
 replace ebu:=Hd ebu
 refine hal.out.mono ?_
 rintro e w1 ⟨rfl,hb1⟩
 have p01 : _:=Ab hb1 hru.out 0 (.int .i64 u.kind) rfl
 have p11 : _:=Ab hb1 hru.out 1 (.string u.text) rfl
 have p21 : _:=Ab hb1 hru.out 2 (.int .i64 u.int) rfl
 have p31 : _:=Ab hb1 hru.out 3 (.float .f64 u.real) rfl
 have p41 : _:=Ab hb1 hru.out 4 (.bool u.flag) rfl
 have p51 : _:=Ab hb1 hru.out 5 (.slice ad u.list.length cap) rfl
 rw [Nat.zero_add] at p01 p11 p21 p31 p41 p51
 have hu1:=hu.out.mono (Aa hb1)
 replace hu1:=Hd hu1
 go_wp2_with fail
 refine (small_any hu1.out).mono ?_
 rintro e w2 ⟨b1,rfl,k1,hb2⟩
 replace hb2:=hb1.trans (hb2.mono hb1.size)
 clear p01 p11 p21 p31 p41 p51
 clear hu1
 cases b1 with
 | false =>
   go_wp2_with fail
   go_ret;exact ⟨rfl,hb0.out.trans (hb2.mono hb0.out.size)⟩
 | true =>
 have cu:=(k1 rfl).1
 clear k1 hb1
 have p02 : _:=Ab hb2 hru.out 0 (.int .i64 u.kind) rfl
 have p12 : _:=Ab hb2 hru.out 1 (.string u.text) rfl
 have p22 : _:=Ab hb2 hru.out 2 (.int .i64 u.int) rfl
 have p32 : _:=Ab hb2 hru.out 3 (.float .f64 u.real) rfl
 have p42 : _:=Ab hb2 hru.out 4 (.bool u.flag) rfl
 have p52 : _:=Ab hb2 hru.out 5 (.slice ad u.list.length cap) rfl
 rw [Nat.zero_add] at p02 p12 p22 p32 p42 p52
 have hu2:=hu.out.mono (Aa hb2)
 replace hu2:=Hd hu2
 go_wp2_with fail
 refine (rright_any u ad cap w2 hu2.out su.out (by omega)).mono ?_
 rintro e W ⟨rfl,hb3⟩
 replace hb3:=hb2.trans (hb3.mono hb2.size)
 clear p02 p12 p22 p32 p42 p52
 clear hu2 hb2
 obtain ⟨r1,hr1⟩ : ∃ r1,r1 = Ea u:=⟨_,rfl⟩
 rw [<- hr1]
 cases r1 with
 | false =>
   go_wp2_with fail
   go_ret;exact ⟨rfl,hb0.out.trans (hb3.mono hb0.out.size)⟩
 | true =>
 have fu:=(checkZ_fine hr1.symm).1
 clear hr1
 have hok:=Dm u 8 fu ru.out
 have hall : ∀ wx,Below W2.heap.size W2 wx -> RV wx.cell? (Ae u.kind u.text u.int u.real u.flag ad u.list.length cap) u /\ LaidV wx.heap.size wx /\ Par wx /\ Rng wx:=fun wx h =>
   ⟨hu.out.mono (Aa h),(hL.out.below h (Nat.le_refl _)).mono h.size,hP2.out.below h,hR2.out.below h⟩
 obtain ⟨D,hD⟩ : ∃ D,D = u.down:=⟨_,rfl⟩
 have hDD : D.down = D:=by rw [hD]; exact V.down_down u
 have cD : D.count <= 100000:=by rw [hD,hok.count]; omega
 have fD : D.fine 8 = true:=by rw [hD]; exact hok.fine
 have rD : D.ranged:=by rw [hD]; exact hok.ranged
 have hbyt : ∀ (q : Int) wx,Below W2.heap.size W2 wx -> Calls Tryz.prog 16 #[.agg #[.int .i64 u.kind,.string u.text,.int .i64 u.int,.float .f64 u.real,.bool u.flag,.slice ad u.list.length cap],.int .i64 q] wx fun e w' => ∃ b,e = .returned b /\ Row wx.heap.size w' b ⟨(Ad u q).toArray⟩ /\ Below wx.heap.size wx w':=fun q wx h =>
   Ge u ad cap 8 q wx (hall wx h).1 fu ru.out (by omega) (hall wx h).2.1
 have hlen : ∀ q : Int,0 < (⟨(Ad u q).toArray⟩ : ByteArray).size:=fun q => by
   have h1:=(Co (p:=q) fu ru.out (by omega)).1;have h2 : (⟨(Ad u q).toArray⟩ : ByteArray).size = (Ad u q).length:=Aq _;omega
 replace hok:=Hd hok
 replace hall:=Hd hall
 replace hbyt:=Hd hbyt
 replace hlen:=Hd hlen
 replace fu:=Hd fu
 replace fD:=Hd fD
 replace rD:=Hd rD
 replace hD:=Hd hD
 replace hDD:=Hd hDD
 obtain ⟨B3,hB3⟩ : ∃ B3,B3 = W.heap.size:=⟨_,rfl⟩
 obtain ⟨W3,hW3⟩ : ∃ W3,W3 = W.alloc (.cells #[.int .i64 2,.int .i64 3,.int .i64 p] 3):=⟨_,rfl⟩
 have hb43 : Below W.heap.size W W3:=by rw [hW3]; exact (Below.refl _ _).alloc (Nat.le_refl _) _
 have h33 : Below W2.heap.size W2 W3:=hb3.trans (hb43.mono hb3.size)
 have hq0 : W3.cell? ⟨B3,0,none⟩ = some (.int .i64 2):=by rw [hW3,hB3,World.cell?_alloc_new]; rfl
 have hq1 : W3.cell? ⟨B3,1,none⟩ = some (.int .i64 3):=by rw [hW3,hB3,World.cell?_alloc_new]; rfl
 have hq2 : W3.cell? ⟨B3,2,none⟩ = some (.int .i64 p):=by rw [hW3,hB3,World.cell?_alloc_new]; rfl
 have hqq : ∀ j,j < 3 -> ∃ q : Int,W3.cell? ⟨B3,j,none⟩ = some (.int .i64 q):=fun j hj => by
   obtain rfl | rfl | rfl : j = 0 \/ j = 1 \/ j = 2:=by omega
   · exact ⟨_,hq0⟩
   · exact ⟨_,hq1⟩
   · exact ⟨_,hq2⟩
 clear hq0 hq1 hq2
 replace hqq:=Hd hqq
 replace hW3:=Hd hW3
 replace hB3:=Hd hB3
 replace h33:=Hd h33
 replace hb43:=Hd hb43
 replace hb3:=Hd hb3
 go_wp2_with fail
 rw [<- hW3.out,<- hB3.out]
 go_loopw [6,7,22] (fun _ _ i wr => ∃ j : Nat,j <= 3 /\ i = .int .i64 (j : Int) /\ Below W3.heap.size W3 wr) (fun _ _ i _ => 3 - (intOf i).toNat)
 case atStart => exact ⟨0,by decide,rfl,Below.refl _ _⟩
 case round =>
   obtain ⟨j,hj,rfl,hbr⟩:=hrel;have hbr2 : Below W2.heap.size W2 wr:=h33.out.trans (hbr.mono h33.out.size);by_cases hlt : j < 3
   · have hlti : (j : Int) < 3:=by omega
     obtain ⟨q,hq⟩:=hqq.out j hlt;have hq':=Aa hbr _ _ hq;have hby:=hbyt.out q wr hbr2;have p03 : _:=Ab hbr2 hru.out 0 (.int .i64 u.kind) rfl;have p13 : _:=Ab hbr2 hru.out 1 (.string u.text) rfl;have p23 : _:=Ab hbr2 hru.out 2 (.int .i64 u.int) rfl;have p33 : _:=Ab hbr2 hru.out 3 (.float .f64 u.real) rfl;have p43 : _:=Ab hbr2 hru.out 4 (.bool u.flag) rfl;have p53 : _:=Ab hbr2 hru.out 5 (.slice ad u.list.length cap) rfl;rw [Nat.zero_add] at p03 p13 p23 p33 p43 p53;replace hby:=Hd hby;replace hbr:=Hd hbr;replace hbr2:=Hd hbr2;clear hq;go_wp2_with fail
     refine hby.out.mono ?_;rintro e W ⟨b7,rfl,hR7,hb7⟩;clear p03 p13 p23 p33 p43 p53;obtain ⟨X,hX⟩ : ∃ X : ByteArray,X = ⟨(Ad u q).toArray⟩:=⟨_,rfl⟩;have hpx : 0 < X.size:=by rw [hX]; exact hlen.out q
     rw [<- hX] at hR7;obtain ⟨g7,c7,rfl⟩:=hR7.len hpx;have hbW : Below W2.heap.size W2 W:=hbr2.out.trans (hb7.mono hbr2.out.size);have hb3W : Below W3.heap.size W3 W:=hbr.out.trans (hb7.mono hbr.out.size);have hr6 : W.rangeAt bu 0 [.int .i64 u.kind,.string u.text,.int .i64 u.int,.float .f64 u.real,.bool u.flag,.slice ad u.list.length cap]:=Ab hbW hru.out;have hrb : ∀ wx,Below W.heap.size W wx -> Calls Tryz.prog 22 #[.agg #[.int .i64 u.kind,.string u.text,.int .i64 u.int,.float .f64 u.real,.bool u.flag,.slice ad u.list.length cap],.int .i64 q] wx fun e w' => ∃ v,e = .returned v /\ Below W.heap.size W w' /\ Below wx.heap.size wx w' /\ v = .string X:=fun wx hI => by
       have hw:=hall.out wx (hbW.trans (hI.mono hbW.size));refine (refBytes_any q u u.kind u.text u.int u.real u.flag ad u.list.length cap 8 wx ⟨⟨hw.1,fu.out,ru.out,by omega,hw.2.1⟩,hw.2.2.1,hw.2.2.2⟩).mono ?_;rintro e w' ⟨he,hb⟩;exact ⟨_,he,hI.trans (hb.mono hI.size),hb,by rw [hX]⟩
     have hsi : ∀ wx,Below W.heap.size W wx -> Calls Tryz.prog 20 #[.agg #[.int .i64 u.kind,.string u.text,.int .i64 u.int,.float .f64 u.real,.bool u.flag,.slice ad u.list.length cap],.int .i64 q] wx fun e w' => ∃ v,e = .returned v /\ Below W.heap.size W w' /\ Below wx.heap.size wx w' /\ v = .int .i64 (X.size : Nat):=fun wx hI => by
       have hw:=hall.out wx (hbW.trans (hI.mono hbW.size));refine (size_any u ad cap 8 q wx hw.1 fu.out ru.out (by omega) hw.2.1).mono ?_;rintro e w' ⟨he,hb⟩;refine ⟨_,he,hI.trans (hb.mono hI.size),hb,?_⟩;rw [hX,show (⟨(Ad u q).toArray⟩ : ByteArray).size = (Ad u q).length from Aq _]
     replace hrb:=Hd hrb;replace hsi:=Hd hsi;replace hX:=Hd hX;replace hR7:=Hd hR7;replace hr6:=Hd hr6;replace hbW:=Hd hbW;replace hb3W:=Hd hb3W;clear hb7;go_upto_region 9 with fail
     replace hrb:=hrb.out;replace hsi:=hsi.out;replace hR7:=hR7.out;replace hr6:=hr6.out
     refine wp_region_rely (l:=[_,_,_,_,_,_,_,_,_,_,_,_,_,_]) (Below W.heap.size W) (Below W.heap.size W) wbR (fun kG_ => ([fun v _ => v = .slice (some ⟨g7,0,none⟩) X.size c7,fun v _ => v = .string X,fun v _ => v = .agg #[.int .i64 u.kind,.string u.text,.int .i64 u.int,.float .f64 u.real,.bool u.flag,.slice ad u.list.length cap],fun v _ => v = .int .i64 q,fun v _ => v = .string X,fun v _ => v = .bool false,fun v _ => v = .bool false,fun v _ => v = .agg #[.int .i64 u.kind,.string u.text,.int .i64 u.int,.float .f64 u.real,.bool u.flag,.slice ad u.list.length cap],fun v _ => v = .int .i64 q,fun v _ => v = .int .i64 (X.size : Nat),fun v _ => v = .slice (some ⟨g7,0,none⟩) X.size c7,fun v _ => v = .int .i64 (X.size : Nat),fun v _ => v = .bool false,fun v _ => v = .bool false] : List (Value -> World -> Prop)).getD kG_ (fun _ _ => True)) (eats []) (isIn [13]) (by kernel_rfl) (by kernel_rfl) (by kernel_rfl) ((Below.refl _ _).drew) ((Below.refl _ _).drew) ?_ ?_ ?_ ?_
     · intro i kG_ u w w' hne hE hg hr
       rcases kG_ with _ | _ | _ | _ | _ | _ | _ | _ | _ | _ | _ | _ | _ | _ | kG_
       · exact hg
       · exact hg
       · exact hg
       · exact hg
       · exact hg
       · exact hg
       · exact hg
       · exact hg
       · exact hg
       · exact hg
       · exact hg
       · exact hg
       · exact hg
       · exact hg
       · trivial
     · intro i w w' hF hI hr
       unfold wbR at hr;split at hr
       · exact hI.trans (hr.mono hI.size)
       · exact hI.trans (hr.mono hI.size)
       · subst hr; exact hI
     · refine ⟨?_,?_,?_,?_,?_,?_,?_,?_,?_,?_,?_,?_,?_,?_,trivial⟩
       · refine VC.plain rfl fun a wx hf => ?_
         have s7:=hf.old 7 (by first | rfl | kernel_rfl);have q7:=An s7;exact Ag (by simp [go_sem,q7]) ⟨hf.c,rfl,rfl⟩
       · refine VC.plain rfl fun a wx hf => ?_
         obtain ⟨v29,g29,s29⟩:=hf.got 0 (by kernel_rfl) (by intro j hj; simp [eats] at hj) rfl rfl;replace s29:=s29.trans (show v29 = .slice (some ⟨g7,0,none⟩) X.size c7 from g29);clear g29;have q29:=An s29;have hI:=hf.start (by kernel_rfl);exact Ag (by simp [go_sem,q29,(hR7.below hI (Nat.le_refl _)).back hpx]) ⟨hf.c,rfl,rfl⟩
       · refine VC.plain rfl fun a wx hf => ?_
         have s2:=hf.old 2 (by first | rfl | kernel_rfl);have q2:=An s2;have hI:=hf.start (by kernel_rfl);exact A9 rfl s2 (Ab hI hr6) Tryz.underlying26 rfl Ac ⟨hf.c,rfl,rfl⟩
       · refine VC.plain rfl fun a wx hf => ?_
         have s6:=hf.old 6 (by first | rfl | kernel_rfl);have q6:=An s6;exact Ag (by simp [go_sem,q6]) ⟨hf.c,rfl,rfl⟩
       · refine VC.plain rfl fun a wx hf => ?_
         obtain ⟨v31,g31,s31⟩:=hf.got 2 (by kernel_rfl) (by intro j hj; simp [eats] at hj) rfl rfl;replace s31:=s31.trans (show v31 = .agg #[.int .i64 u.kind,.string u.text,.int .i64 u.int,.float .f64 u.real,.bool u.flag,.slice ad u.list.length cap] from g31);clear g31;have q31:=An s31;obtain ⟨v32,g32,s32⟩:=hf.got 3 (by kernel_rfl) (by intro j hj; simp [eats] at hj) rfl rfl;replace s32:=s32.trans (show v32 = .int .i64 q from g32);clear g32;have q32:=An s32;have hI:=hf.start (by kernel_rfl);exact Bh (f:=22) (args:=#[.agg #[.int .i64 u.kind,.string u.text,.int .i64 u.int,.float .f64 u.real,.bool u.flag,.slice ad u.list.length cap],.int .i64 q]) (by simp [go_sem,q31,q32]) (hrb wx hI)
       · refine VC.plain rfl fun a wx hf => ?_
         obtain ⟨v30,g30,s30⟩:=hf.got 1 (by kernel_rfl) (by intro j hj; simp [eats] at hj) rfl rfl;replace s30:=s30.trans (show v30 = .string X from g30);clear g30;have q30:=An s30;obtain ⟨v33,g33,s33⟩:=hf.got 4 (by kernel_rfl) (by intro j hj; simp [eats] at hj) rfl rfl;replace s33:=s33.trans (show v33 = .string X from g33);clear g33;have q33:=An s33;exact Ag (by simp [go_sem,q30,q33]) ⟨hf.c,rfl,rfl⟩
       · refine VC.plain rfl fun a wx hf => ?_
         obtain ⟨v34,g34,s34⟩:=hf.got 5 (by kernel_rfl) (by intro j hj; simp [eats] at hj) rfl rfl;replace s34:=s34.trans (show v34 = .bool false from g34);clear g34;have q34:=An s34;exact Ag (by simp [go_sem,q34]) ⟨hf.c,rfl,rfl⟩
       · refine VC.guarded (g:=6) (b:=false) (t:=35) rfl rfl rfl (fun a wx hf => by obtain ⟨v0,g0,s0⟩:=hf.got 6 (by kernel_rfl) (by intro j hj; simp [eats] at hj) rfl rfl; exact s0.trans g0) (fun a wx hf => ?_)
         have s2:=hf.old 2 (by first | rfl | kernel_rfl);have q2:=An s2;have hI:=hf.start (by kernel_rfl);exact A9 rfl s2 (Ab hI hr6) Tryz.underlying26 rfl Ac ⟨hf.c,rfl,rfl⟩
       · refine VC.guarded (g:=6) (b:=false) (t:=35) rfl rfl rfl (fun a wx hf => by obtain ⟨v0,g0,s0⟩:=hf.got 6 (by kernel_rfl) (by intro j hj; simp [eats] at hj) rfl rfl; exact s0.trans g0) (fun a wx hf => ?_)
         have s6:=hf.old 6 (by first | rfl | kernel_rfl);have q6:=An s6;exact Ag (by simp [go_sem,q6]) ⟨hf.c,rfl,rfl⟩
       · refine VC.guarded (g:=6) (b:=false) (t:=35) rfl rfl rfl (fun a wx hf => by obtain ⟨v0,g0,s0⟩:=hf.got 6 (by kernel_rfl) (by intro j hj; simp [eats] at hj) rfl rfl; exact s0.trans g0) (fun a wx hf => ?_)
         obtain ⟨v36,g36,s36⟩:=hf.got 7 (by kernel_rfl) (by intro j hj; simp [eats] at hj) rfl rfl;replace s36:=s36.trans (show v36 = .agg #[.int .i64 u.kind,.string u.text,.int .i64 u.int,.float .f64 u.real,.bool u.flag,.slice ad u.list.length cap] from g36);clear g36;have q36:=An s36;obtain ⟨v37,g37,s37⟩:=hf.got 8 (by kernel_rfl) (by intro j hj; simp [eats] at hj) rfl rfl;replace s37:=s37.trans (show v37 = .int .i64 q from g37);clear g37;have q37:=An s37;have hI:=hf.start (by kernel_rfl);exact Bh (f:=20) (args:=#[.agg #[.int .i64 u.kind,.string u.text,.int .i64 u.int,.float .f64 u.real,.bool u.flag,.slice ad u.list.length cap],.int .i64 q]) (by simp [go_sem,q36,q37]) (hsi wx hI)
       · refine VC.guarded (g:=6) (b:=false) (t:=35) rfl rfl rfl (fun a wx hf => by obtain ⟨v0,g0,s0⟩:=hf.got 6 (by kernel_rfl) (by intro j hj; simp [eats] at hj) rfl rfl; exact s0.trans g0) (fun a wx hf => ?_)
         have s7:=hf.old 7 (by first | rfl | kernel_rfl);have q7:=An s7;exact Ag (by simp [go_sem,q7]) ⟨hf.c,rfl,rfl⟩
       · refine VC.guarded (g:=6) (b:=false) (t:=35) rfl rfl rfl (fun a wx hf => by obtain ⟨v0,g0,s0⟩:=hf.got 6 (by kernel_rfl) (by intro j hj; simp [eats] at hj) rfl rfl; exact s0.trans g0) (fun a wx hf => ?_)
         obtain ⟨v39,g39,s39⟩:=hf.got 10 (by kernel_rfl) (by intro j hj; simp [eats] at hj) rfl rfl;replace s39:=s39.trans (show v39 = .slice (some ⟨g7,0,none⟩) X.size c7 from g39);clear g39;have q39:=An s39;have hI:=hf.start (by kernel_rfl);exact Ag (by simp [go_sem,q39]) ⟨hf.c,rfl,rfl⟩
       · refine VC.guarded (g:=6) (b:=false) (t:=35) rfl rfl rfl (fun a wx hf => by obtain ⟨v0,g0,s0⟩:=hf.got 6 (by kernel_rfl) (by intro j hj; simp [eats] at hj) rfl rfl; exact s0.trans g0) (fun a wx hf => ?_)
         obtain ⟨v38,g38,s38⟩:=hf.got 9 (by kernel_rfl) (by intro j hj; simp [eats] at hj) rfl rfl;replace s38:=s38.trans (show v38 = .int .i64 (X.size : Nat) from g38);clear g38;have q38:=An s38;obtain ⟨v40,g40,s40⟩:=hf.got 11 (by kernel_rfl) (by intro j hj; simp [eats] at hj) rfl rfl;replace s40:=s40.trans (show v40 = .int .i64 (X.size : Nat) from g40);clear g40;have q40:=An s40;exact Ag (by simp [go_sem,q38,q40]) ⟨hf.c,rfl,rfl⟩
       · refine VC.plain rfl fun a wx hf => ?_
         obtain ⟨v35,g35,s35⟩:=hf.got 6 (by kernel_rfl) (by intro j hj; simp [eats] at hj) rfl rfl;replace s35:=s35.trans (show v35 = .bool false from g35);clear g35;have q35:=An s35;obtain ⟨v41,g41,s41⟩:=hf.got 12 (by kernel_rfl) (by intro j hj; simp [eats] at hj) rfl rfl;replace s41:=s41.trans (show v41 = .bool false from g41);clear g41;have q41:=An s41;have hI:=hf.start (by kernel_rfl);exact Ag (by simp [go_sem,q35,q41]) ⟨hf.c,rfl,rfl⟩
     · intro vs w9 hb9 hG
       have n13 : vs 13 = .bool false:=hG 13 (by decide) (by decide);have hbf:=hb3W.out.trans (hb9.mono hb3W.out.size);replace hbf:=Hd hbf;clear hrb hsi hR7 hr6 hG hb9;simp only [putFrom,Act.put,List.setIfInBounds_toArray,List.set_cons_zero,List.set_cons_succ,n13];clear n13;go_wp2_with fail
       go_roundw
       case rel => exact ⟨j + 1,by omega,by go_num,hbf.out⟩
       case measure => simp [intOf]; omega
   · have hlti : ¬ (j : Int) < 3:=by omega
     have hdn:=down_any u u.kind u.text u.int u.real u.flag ad u.list.length cap 8 wr ⟨(hall.out wr hbr2).1,fu.out,ru.out,by omega,(hall.out wr hbr2).2.1⟩;unfold Fd at hdn;rw [<- hD.out] at hdn;have p04 : _:=Ab hbr2 hru.out 0 (.int .i64 u.kind) rfl;have p14 : _:=Ab hbr2 hru.out 1 (.string u.text) rfl;have p24 : _:=Ab hbr2 hru.out 2 (.int .i64 u.int) rfl;have p34 : _:=Ab hbr2 hru.out 3 (.float .f64 u.real) rfl;have p44 : _:=Ab hbr2 hru.out 4 (.bool u.flag) rfl;have p54 : _:=Ab hbr2 hru.out 5 (.slice ad u.list.length cap) rfl;rw [Nat.zero_add] at p04 p14 p24 p34 p44 p54;replace hdn:=Hd hdn;replace hbr2:=Hd hbr2;clear hbr;go_wp2_with fail
     refine hdn.out.mono ?_;rintro e w5 ⟨a2,c2,rfl,hvD5,hb5⟩;clear p04 p14 p24 p34 p44 p54;obtain ⟨BD,hBD⟩ : ∃ B,B = w5.heap.size:=⟨_,rfl⟩;obtain ⟨W,hW⟩ : ∃ W,W = w5.alloc (.cells #[.int .i64 D.kind,.string D.text,.int .i64 D.int,.float .f64 D.real,.bool D.flag,.slice a2 D.list.length c2] 26):=⟨_,rfl⟩;have hb56 : Below w5.heap.size w5 W:=by rw [hW]; exact (Below.refl _ _).alloc (Nat.le_refl _) _
     have hbW : Below W2.heap.size W2 W:=(hbr2.out.trans (hb5.mono hbr2.out.size)).trans (hb56.mono (by have:=hbr2.out.size; have:=hb5.size; omega));have hrD : W.rangeAt BD 0 [.int .i64 D.kind,.string D.text,.int .i64 D.int,.float .f64 D.real,.bool D.flag,.slice a2 D.list.length c2]:=by
       rw [hW,hBD]; intro q x hq; rw [Nat.zero_add,World.cell?_alloc_new]; simpa using hq
     have hvD : RV W.cell? (Ae D.kind D.text D.int D.real D.flag a2 D.list.length c2) D:=(hvD5.mono Fw).mono (Aa hb56);have hr6 : W.rangeAt bu 0 [.int .i64 u.kind,.string u.text,.int .i64 u.int,.float .f64 u.real,.bool u.flag,.slice ad u.list.length cap]:=Ab hbW hru.out;obtain ⟨X,hX⟩ : ∃ X : ByteArray,X = ⟨(Ad u 2).toArray⟩:=⟨_,rfl⟩;have hpx : 0 < X.size:=by rw [hX]; exact hlen.out 2
     have hX2 : X = ⟨(Ad D 2).toArray⟩:=by
       rw [hX];unfold Ad;rw [if_neg (by decide),if_neg (by decide),hDD.out,hD.out]
     have hsm : ∀ wx,Below W.heap.size W wx -> ∀ (x1 : Option Addr) (y1 : Nat) (x2 : Option Addr) (y2 : Nat),RV wx.cell? (Ae D.kind D.text D.int D.real D.flag x1 D.list.length y1) D -> RV wx.cell? (Ae D.kind D.text D.int D.real D.flag x2 D.list.length y2) D ->
         Calls Tryz.prog 19 #[.agg #[.int .i64 D.kind,.string D.text,.int .i64 D.int,.float .f64 D.real,.bool D.flag,.slice x1 D.list.length y1],.agg #[.int .i64 D.kind,.string D.text,.int .i64 D.int,.float .f64 D.real,.bool D.flag,.slice x2 D.list.length y2]] wx fun e w' => ∃ v,e = .returned v /\ Below W.heap.size W w' /\ Below wx.heap.size wx w' /\ v = .bool true:=fun wx hI x1 y1 x2 y2 k1 k2 => by
       refine (same03_any D D x1 D.list.length y1 x2 D.list.length y2 wx k1 k2 (by omega)).mono ?_
       rintro e w' ⟨q,he,hq,hb⟩
       obtain rfl : q = true:=hq.2 rfl
       exact ⟨_,he,hI.trans (hb.mono hI.size),hb,rfl⟩
     have hrd : ∀ wx,Below W.heap.size W wx -> Calls Tryz.prog 32 #[.agg #[.int .i64 u.kind,.string u.text,.int .i64 u.int,.float .f64 u.real,.bool u.flag,.slice ad u.list.length cap]] wx fun e w' => ∃ v,e = .returned v /\ Below W.heap.size W w' /\ Below wx.heap.size wx w' /\
         ∃ (a1 : Option Addr) (c1 : Nat),v = .agg #[.int .i64 D.kind,.string D.text,.int .i64 D.int,.float .f64 D.real,.bool D.flag,.slice a1 D.list.length c1] /\ RV w'.cell? (Ae D.kind D.text D.int D.real D.flag a1 D.list.length c1) D:=fun wx hI => by
       have hw:=hall.out wx (hbW.trans (hI.mono hbW.size))
       have h:=rdown_any u u.kind u.text u.int u.real u.flag ad u.list.length cap 8 wx ⟨⟨hw.1,fu.out,ru.out,by omega,hw.2.1⟩,hw.2.2.1,hw.2.2.2⟩
       unfold Ci at h
       rw [<- hD.out] at h
       exact h.mono fun e w' ⟨a1,c1,he,h1,hb⟩ => ⟨_,he,hI.trans (hb.mono hI.size),hb,a1,c1,rfl,h1.mono Fw⟩
     have hwd : ∀ wx,Below W.heap.size W wx -> Calls Tryz.prog 31 #[.agg #[.int .i64 D.kind,.string D.text,.int .i64 D.int,.float .f64 D.real,.bool D.flag,.slice a2 D.list.length c2]] wx fun e w' => ∃ v,e = .returned v /\ Below W.heap.size W w' /\ Below wx.heap.size wx w' /\
         ∃ (a1 : Option Addr) (c1 : Nat),v = .agg #[.int .i64 D.kind,.string D.text,.int .i64 D.int,.float .f64 D.real,.bool D.flag,.slice a1 D.list.length c1] /\ RV w'.cell? (Ae D.kind D.text D.int D.real D.flag a1 D.list.length c1) D:=fun wx hI => by
       have hw:=hall.out wx (hbW.trans (hI.mono hbW.size))
       have h:=down_any D D.kind D.text D.int D.real D.flag a2 D.list.length c2 8 wx ⟨hvD.mono (Aa hI),fD.out,rD.out,cD,hw.2.1⟩
       unfold Fd at h
       rw [hDD.out] at h
       exact h.mono fun e w' ⟨a1,c1,he,h1,hb⟩ => ⟨_,he,hI.trans (hb.mono hI.size),hb,a1,c1,rfl,h1.mono Fw⟩
     have hbU : ∀ wx,Below W.heap.size W wx -> Calls Tryz.prog 16 #[.agg #[.int .i64 u.kind,.string u.text,.int .i64 u.int,.float .f64 u.real,.bool u.flag,.slice ad u.list.length cap],.int .i64 2] wx fun e w' => ∃ v,e = .returned v /\ Below W.heap.size W w' /\ Below wx.heap.size wx w' /\ Row W.heap.size w' v X /\ Below W.heap.size W w':=fun wx hI => by
       have h:=hbyt.out 2 wx (hbW.trans (hI.mono hbW.size));rw [<- hX] at h;exact h.mono fun e w' ⟨b,he,hR,hb⟩ => ⟨b,he,hI.trans (hb.mono hI.size),hb,hR.mono hI.size,hI.trans (hb.mono hI.size)⟩
     have hbD : ∀ wx,Below W.heap.size W wx -> Calls Tryz.prog 16 #[.agg #[.int .i64 D.kind,.string D.text,.int .i64 D.int,.float .f64 D.real,.bool D.flag,.slice a2 D.list.length c2],.int .i64 2] wx fun e w' => ∃ v,e = .returned v /\ Below W.heap.size W w' /\ Below wx.heap.size wx w' /\ Row W.heap.size w' v X /\ Below W.heap.size W w':=fun wx hI => by
       have hw:=hall.out wx (hbW.trans (hI.mono hbW.size));have h:=Ge D a2 c2 8 2 wx (hvD.mono (Aa hI)) fD.out rD.out cD hw.2.1;rw [<- hX2] at h;exact h.mono fun e w' ⟨b,he,hR,hb⟩ => ⟨b,he,hI.trans (hb.mono hI.size),hb,hR.mono hI.size,hI.trans (hb.mono hI.size)⟩
     replace hsm:=Hd hsm;replace hrd:=Hd hrd;replace hwd:=Hd hwd;replace hbU:=Hd hbU;replace hbD:=Hd hbD;replace hX:=Hd hX;replace hX2:=Hd hX2;replace hvD:=Hd hvD;replace hrD:=Hd hrD;replace hr6:=Hd hr6;replace hW:=Hd hW;replace hBD:=Hd hBD;have hbWf:=hb0.out.trans (hbW.mono hb0.out.size);replace hbWf:=Hd hbWf;clear hvD5 hb5 hb56 hbW;go_upto_region 13 with fail
     rw [<- hW.out,<- hBD.out];replace hsm:=hsm.out;replace hrd:=hrd.out;replace hwd:=hwd.out;replace hbU:=hbU.out;replace hbD:=hbD.out;replace hvD:=hvD.out;replace hrD:=hrD.out;replace hr6:=hr6.out
     refine wp_region_rely (l:=[_,_,_,_,_,_,_,_,_,_,_,_,_,_,_,_,_,_,_,_]) (Below W.heap.size W) (Below W.heap.size W) wdR (fun kG_ => ([fun v _ => v = .agg #[.int .i64 D.kind,.string D.text,.int .i64 D.int,.float .f64 D.real,.bool D.flag,.slice a2 D.list.length c2],fun v _ => v = .agg #[.int .i64 u.kind,.string u.text,.int .i64 u.int,.float .f64 u.real,.bool u.flag,.slice ad u.list.length cap],fun v w => ∃ (a1 : Option Addr) (c1 : Nat),v = .agg #[.int .i64 D.kind,.string D.text,.int .i64 D.int,.float .f64 D.real,.bool D.flag,.slice a1 D.list.length c1] /\ RV w.cell? (Ae D.kind D.text D.int D.real D.flag a1 D.list.length c1) D,fun v _ => v = .bool true,fun v _ => v = .bool true,fun v _ => v = .agg #[.int .i64 D.kind,.string D.text,.int .i64 D.int,.float .f64 D.real,.bool D.flag,.slice a2 D.list.length c2],fun v w => ∃ (a1 : Option Addr) (c1 : Nat),v = .agg #[.int .i64 D.kind,.string D.text,.int .i64 D.int,.float .f64 D.real,.bool D.flag,.slice a1 D.list.length c1] /\ RV w.cell? (Ae D.kind D.text D.int D.real D.flag a1 D.list.length c1) D,fun v _ => v = .agg #[.int .i64 D.kind,.string D.text,.int .i64 D.int,.float .f64 D.real,.bool D.flag,.slice a2 D.list.length c2],fun v _ => v = .bool true,fun v _ => v = .bool true,fun v _ => v = .bool true,fun v _ => v = .agg #[.int .i64 D.kind,.string D.text,.int .i64 D.int,.float .f64 D.real,.bool D.flag,.slice a2 D.list.length c2],fun v w => Row W.heap.size w v X /\ Below W.heap.size W w,fun v _ => v = .string X,fun v _ => v = .agg #[.int .i64 u.kind,.string u.text,.int .i64 u.int,.float .f64 u.real,.bool u.flag,.slice ad u.list.length cap],fun v w => Row W.heap.size w v X /\ Below W.heap.size W w,fun v _ => v = .string X,fun v _ => v = .bool true,fun v _ => v = .bool true,fun v _ => v = .bool true] : List (Value -> World -> Prop)).getD kG_ (fun _ _ => True)) (eats []) (isIn [19]) (by kernel_rfl) (by kernel_rfl) (by kernel_rfl) ((Below.refl _ _).drew) ((Below.refl _ _).drew) ?_ ?_ ?_ ?_
     · intro i kG_ u w w' hne hE hg hr
       rcases kG_ with _ | _ | _ | _ | _ | _ | _ | _ | _ | _ | _ | _ | _ | _ | _ | _ | _ | _ | _ | _ | kG_
       · exact hg
       · exact hg
       · replace hg : (fun (v : Value) (w : World) => ∃ (a1 : Option Addr) (c1 : Nat),v = .agg #[.int .i64 D.kind,.string D.text,.int .i64 D.int,.float .f64 D.real,.bool D.flag,.slice a1 D.list.length c1] /\ RV w.cell? (Ae D.kind D.text D.int D.real D.flag a1 D.list.length c1) D) u w:=hg
         show (fun (v : Value) (w : World) => ∃ (a1 : Option Addr) (c1 : Nat),v = .agg #[.int .i64 D.kind,.string D.text,.int .i64 D.int,.float .f64 D.real,.bool D.flag,.slice a1 D.list.length c1] /\ RV w.cell? (Ae D.kind D.text D.int D.real D.flag a1 D.list.length c1) D) u w';dsimp only at hg ⊢;replace hE : exB _ _ i 2 = false:=hE;replace hne : 2 ≠ i:=hne;unfold wdR at hr;split at hr
         all_goals first
           | exact absurd rfl hne
           | exact absurd (hE.symm.trans (by decide +kernel : exB _ _ _ _ = true)) (by decide)
           | (subst hr; exact hg)
           | ((obtain ⟨a1,c1,h1,h2⟩:=hg; exact ⟨a1,c1,h1,h2.mono (Aa hr)⟩))
       · exact hg
       · exact hg
       · exact hg
       · replace hg : (fun (v : Value) (w : World) => ∃ (a1 : Option Addr) (c1 : Nat),v = .agg #[.int .i64 D.kind,.string D.text,.int .i64 D.int,.float .f64 D.real,.bool D.flag,.slice a1 D.list.length c1] /\ RV w.cell? (Ae D.kind D.text D.int D.real D.flag a1 D.list.length c1) D) u w:=hg
         show (fun (v : Value) (w : World) => ∃ (a1 : Option Addr) (c1 : Nat),v = .agg #[.int .i64 D.kind,.string D.text,.int .i64 D.int,.float .f64 D.real,.bool D.flag,.slice a1 D.list.length c1] /\ RV w.cell? (Ae D.kind D.text D.int D.real D.flag a1 D.list.length c1) D) u w';dsimp only at hg ⊢;replace hE : exB _ _ i 6 = false:=hE;replace hne : 6 ≠ i:=hne;unfold wdR at hr;split at hr
         all_goals first
           | exact absurd rfl hne
           | exact absurd (hE.symm.trans (by decide +kernel : exB _ _ _ _ = true)) (by decide)
           | (subst hr; exact hg)
           | ((obtain ⟨a1,c1,h1,h2⟩:=hg; exact ⟨a1,c1,h1,h2.mono (Aa hr)⟩))
       · exact hg
       · exact hg
       · exact hg
       · exact hg
       · exact hg
       · replace hg : (fun (v : Value) (w : World) => Row W.heap.size w v X /\ Below W.heap.size W w) u w:=hg
         show (fun (v : Value) (w : World) => Row W.heap.size w v X /\ Below W.heap.size W w) u w';dsimp only at hg ⊢;replace hE : exB _ _ i 12 = false:=hE;replace hne : 12 ≠ i:=hne;unfold wdR at hr;split at hr
         all_goals first
           | exact absurd rfl hne
           | exact absurd (hE.symm.trans (by decide +kernel : exB _ _ _ _ = true)) (by decide)
           | (subst hr; exact hg)
           | ((obtain ⟨g1,g2⟩:=hg; exact ⟨g1.below hr (Nat.le_refl _),g2.trans (hr.mono g2.size)⟩))
       · exact hg
       · exact hg
       · replace hg : (fun (v : Value) (w : World) => Row W.heap.size w v X /\ Below W.heap.size W w) u w:=hg
         show (fun (v : Value) (w : World) => Row W.heap.size w v X /\ Below W.heap.size W w) u w';dsimp only at hg ⊢;replace hE : exB _ _ i 15 = false:=hE;replace hne : 15 ≠ i:=hne;unfold wdR at hr;split at hr
         all_goals first
           | exact absurd rfl hne
           | exact absurd (hE.symm.trans (by decide +kernel : exB _ _ _ _ = true)) (by decide)
           | (subst hr; exact hg)
           | ((obtain ⟨g1,g2⟩:=hg; exact ⟨g1.below hr (Nat.le_refl _),g2.trans (hr.mono g2.size)⟩))
       · exact hg
       · exact hg
       · exact hg
       · exact hg
       · trivial
     · intro i w w' hF hI hr
       unfold wdR at hr;split at hr
       · exact hI.trans (hr.mono hI.size)
       · exact hI.trans (hr.mono hI.size)
       · exact hI.trans (hr.mono hI.size)
       · exact hI.trans (hr.mono hI.size)
       · exact hI.trans (hr.mono hI.size)
       · exact hI.trans (hr.mono hI.size)
       · subst hr; exact hI
     · refine ⟨?_,?_,?_,?_,?_,?_,?_,?_,?_,?_,?_,?_,?_,?_,?_,?_,?_,?_,?_,?_,trivial⟩
       · refine VC.plain rfl fun a wx hf => ?_
         have s8:=hf.old 8 (by first | rfl | kernel_rfl);have q8:=An s8;have hI:=hf.start (by kernel_rfl);exact A9 rfl s8 (Ab hI hrD) Tryz.underlying26 rfl Ac ⟨hf.c,rfl,rfl⟩
       · refine VC.plain rfl fun a wx hf => ?_
         have s2:=hf.old 2 (by first | rfl | kernel_rfl);have q2:=An s2;have hI:=hf.start (by kernel_rfl);exact A9 rfl s2 (Ab hI hr6) Tryz.underlying26 rfl Ac ⟨hf.c,rfl,rfl⟩
       · refine VC.plain rfl fun a wx hf => ?_
         obtain ⟨v47,g47,s47⟩:=hf.got 1 (by kernel_rfl) (by intro j hj; simp [eats] at hj) rfl rfl;replace s47:=s47.trans (show v47 = .agg #[.int .i64 u.kind,.string u.text,.int .i64 u.int,.float .f64 u.real,.bool u.flag,.slice ad u.list.length cap] from g47);clear g47;have q47:=An s47;have hI:=hf.start (by kernel_rfl);exact Bh (f:=32) (args:=#[.agg #[.int .i64 u.kind,.string u.text,.int .i64 u.int,.float .f64 u.real,.bool u.flag,.slice ad u.list.length cap]]) (by simp [go_sem,q47]) (hrd wx hI)
       · refine VC.plain rfl fun a wx hf => ?_
         obtain ⟨v46,g46,s46⟩:=hf.got 0 (by kernel_rfl) (by intro j hj; simp [eats] at hj) rfl rfl;replace s46:=s46.trans (show v46 = .agg #[.int .i64 D.kind,.string D.text,.int .i64 D.int,.float .f64 D.real,.bool D.flag,.slice a2 D.list.length c2] from g46);clear g46;have q46:=An s46;obtain ⟨v48,g48,s48⟩:=hf.got 2 (by kernel_rfl) (by intro j hj; simp [eats] at hj) rfl rfl;have q48:=An s48;replace g48 : (fun (v : Value) (w : World) => ∃ (a1 : Option Addr) (c1 : Nat),v = .agg #[.int .i64 D.kind,.string D.text,.int .i64 D.int,.float .f64 D.real,.bool D.flag,.slice a1 D.list.length c1] /\ RV w.cell? (Ae D.kind D.text D.int D.real D.flag a1 D.list.length c1) D) v48 wx:=g48;dsimp only at g48;have hI:=hf.start (by kernel_rfl);obtain ⟨a1,c1,rfl,hrv1⟩:=g48
         exact Bh (f:=19) (args:=#[.agg #[.int .i64 D.kind,.string D.text,.int .i64 D.int,.float .f64 D.real,.bool D.flag,.slice a2 D.list.length c2],.agg #[.int .i64 D.kind,.string D.text,.int .i64 D.int,.float .f64 D.real,.bool D.flag,.slice a1 D.list.length c1]]) (by simp [go_sem,q46,q48]) (hsm wx hI a2 c2 a1 c1 (hvD.mono (Aa hI)) hrv1)
       · refine VC.plain rfl fun a wx hf => ?_
         obtain ⟨v49,g49,s49⟩:=hf.got 3 (by kernel_rfl) (by intro j hj; simp [eats] at hj) rfl rfl;replace s49:=s49.trans (show v49 = .bool true from g49);clear g49;have q49:=An s49;exact Ag (by simp [go_sem,q49]) ⟨hf.c,rfl,rfl⟩
       · refine VC.guarded (g:=4) (b:=true) (t:=50) rfl rfl rfl (fun a wx hf => by obtain ⟨v0,g0,s0⟩:=hf.got 4 (by kernel_rfl) (by intro j hj; simp [eats] at hj) rfl rfl; exact s0.trans g0) (fun a wx hf => ?_)
         have s8:=hf.old 8 (by first | rfl | kernel_rfl);have q8:=An s8;have hI:=hf.start (by kernel_rfl);exact A9 rfl s8 (Ab hI hrD) Tryz.underlying26 rfl Ac ⟨hf.c,rfl,rfl⟩
       · refine VC.guarded (g:=4) (b:=true) (t:=50) rfl rfl rfl (fun a wx hf => by obtain ⟨v0,g0,s0⟩:=hf.got 4 (by kernel_rfl) (by intro j hj; simp [eats] at hj) rfl rfl; exact s0.trans g0) (fun a wx hf => ?_)
         obtain ⟨v51,g51,s51⟩:=hf.got 5 (by kernel_rfl) (by intro j hj; simp [eats] at hj) rfl rfl;replace s51:=s51.trans (show v51 = .agg #[.int .i64 D.kind,.string D.text,.int .i64 D.int,.float .f64 D.real,.bool D.flag,.slice a2 D.list.length c2] from g51);clear g51;have q51:=An s51;have hI:=hf.start (by kernel_rfl);exact Bh (f:=31) (args:=#[.agg #[.int .i64 D.kind,.string D.text,.int .i64 D.int,.float .f64 D.real,.bool D.flag,.slice a2 D.list.length c2]]) (by simp [go_sem,q51]) (hwd wx hI)
       · refine VC.guarded (g:=4) (b:=true) (t:=50) rfl rfl rfl (fun a wx hf => by obtain ⟨v0,g0,s0⟩:=hf.got 4 (by kernel_rfl) (by intro j hj; simp [eats] at hj) rfl rfl; exact s0.trans g0) (fun a wx hf => ?_)
         have s8:=hf.old 8 (by first | rfl | kernel_rfl);have q8:=An s8;have hI:=hf.start (by kernel_rfl);exact A9 rfl s8 (Ab hI hrD) Tryz.underlying26 rfl Ac ⟨hf.c,rfl,rfl⟩
       · refine VC.guarded (g:=4) (b:=true) (t:=50) rfl rfl rfl (fun a wx hf => by obtain ⟨v0,g0,s0⟩:=hf.got 4 (by kernel_rfl) (by intro j hj; simp [eats] at hj) rfl rfl; exact s0.trans g0) (fun a wx hf => ?_)
         obtain ⟨v52,g52,s52⟩:=hf.got 6 (by kernel_rfl) (by intro j hj; simp [eats] at hj) rfl rfl;have q52:=An s52;replace g52 : (fun (v : Value) (w : World) => ∃ (a1 : Option Addr) (c1 : Nat),v = .agg #[.int .i64 D.kind,.string D.text,.int .i64 D.int,.float .f64 D.real,.bool D.flag,.slice a1 D.list.length c1] /\ RV w.cell? (Ae D.kind D.text D.int D.real D.flag a1 D.list.length c1) D) v52 wx:=g52;dsimp only at g52;obtain ⟨v53,g53,s53⟩:=hf.got 7 (by kernel_rfl) (by intro j hj; simp [eats] at hj) rfl rfl;replace s53:=s53.trans (show v53 = .agg #[.int .i64 D.kind,.string D.text,.int .i64 D.int,.float .f64 D.real,.bool D.flag,.slice a2 D.list.length c2] from g53);clear g53;have q53:=An s53;have hI:=hf.start (by kernel_rfl);obtain ⟨a1,c1,rfl,hrv1⟩:=g52
         exact Bh (f:=19) (args:=#[.agg #[.int .i64 D.kind,.string D.text,.int .i64 D.int,.float .f64 D.real,.bool D.flag,.slice a1 D.list.length c1],.agg #[.int .i64 D.kind,.string D.text,.int .i64 D.int,.float .f64 D.real,.bool D.flag,.slice a2 D.list.length c2]]) (by simp [go_sem,q52,q53]) (hsm wx hI a1 c1 a2 c2 hrv1 (hvD.mono (Aa hI)))
       · refine VC.plain rfl fun a wx hf => ?_
         obtain ⟨v50,g50,s50⟩:=hf.got 4 (by kernel_rfl) (by intro j hj; simp [eats] at hj) rfl rfl;replace s50:=s50.trans (show v50 = .bool true from g50);clear g50;have q50:=An s50;obtain ⟨v54,g54,s54⟩:=hf.got 8 (by kernel_rfl) (by intro j hj; simp [eats] at hj) rfl rfl;replace s54:=s54.trans (show v54 = .bool true from g54);clear g54;have q54:=An s54;have hI:=hf.start (by kernel_rfl);exact Ag (by simp [go_sem,q50,q54]) ⟨hf.c,rfl,rfl⟩
       · refine VC.plain rfl fun a wx hf => ?_
         obtain ⟨v55,g55,s55⟩:=hf.got 9 (by kernel_rfl) (by intro j hj; simp [eats] at hj) rfl rfl;replace s55:=s55.trans (show v55 = .bool true from g55);clear g55;have q55:=An s55;exact Ag (by simp [go_sem,q55]) ⟨hf.c,rfl,rfl⟩
       · refine VC.guarded (g:=10) (b:=true) (t:=56) rfl rfl rfl (fun a wx hf => by obtain ⟨v0,g0,s0⟩:=hf.got 10 (by kernel_rfl) (by intro j hj; simp [eats] at hj) rfl rfl; exact s0.trans g0) (fun a wx hf => ?_)
         have s8:=hf.old 8 (by first | rfl | kernel_rfl);have q8:=An s8;have hI:=hf.start (by kernel_rfl);exact A9 rfl s8 (Ab hI hrD) Tryz.underlying26 rfl Ac ⟨hf.c,rfl,rfl⟩
       · refine VC.guarded (g:=10) (b:=true) (t:=56) rfl rfl rfl (fun a wx hf => by obtain ⟨v0,g0,s0⟩:=hf.got 10 (by kernel_rfl) (by intro j hj; simp [eats] at hj) rfl rfl; exact s0.trans g0) (fun a wx hf => ?_)
         obtain ⟨v57,g57,s57⟩:=hf.got 11 (by kernel_rfl) (by intro j hj; simp [eats] at hj) rfl rfl;replace s57:=s57.trans (show v57 = .agg #[.int .i64 D.kind,.string D.text,.int .i64 D.int,.float .f64 D.real,.bool D.flag,.slice a2 D.list.length c2] from g57);clear g57;have q57:=An s57;have hI:=hf.start (by kernel_rfl);exact Bh (f:=16) (args:=#[.agg #[.int .i64 D.kind,.string D.text,.int .i64 D.int,.float .f64 D.real,.bool D.flag,.slice a2 D.list.length c2],.int .i64 2]) (by simp [go_sem,q57]) (hbD wx hI)
       · refine VC.guarded (g:=10) (b:=true) (t:=56) rfl rfl rfl (fun a wx hf => by obtain ⟨v0,g0,s0⟩:=hf.got 10 (by kernel_rfl) (by intro j hj; simp [eats] at hj) rfl rfl; exact s0.trans g0) (fun a wx hf => ?_)
         obtain ⟨v58,g58,s58⟩:=hf.got 12 (by kernel_rfl) (by intro j hj; simp [eats] at hj) rfl rfl;have q58:=An s58;replace g58 : (fun (v : Value) (w : World) => Row W.heap.size w v X /\ Below W.heap.size W w) v58 wx:=g58;dsimp only at g58;have hI:=hf.start (by kernel_rfl);exact Ag (by simp [go_sem,q58,g58.1.back hpx]) ⟨hf.c,rfl,rfl⟩
       · refine VC.guarded (g:=10) (b:=true) (t:=56) rfl rfl rfl (fun a wx hf => by obtain ⟨v0,g0,s0⟩:=hf.got 10 (by kernel_rfl) (by intro j hj; simp [eats] at hj) rfl rfl; exact s0.trans g0) (fun a wx hf => ?_)
         have s2:=hf.old 2 (by first | rfl | kernel_rfl);have q2:=An s2;have hI:=hf.start (by kernel_rfl);exact A9 rfl s2 (Ab hI hr6) Tryz.underlying26 rfl Ac ⟨hf.c,rfl,rfl⟩
       · refine VC.guarded (g:=10) (b:=true) (t:=56) rfl rfl rfl (fun a wx hf => by obtain ⟨v0,g0,s0⟩:=hf.got 10 (by kernel_rfl) (by intro j hj; simp [eats] at hj) rfl rfl; exact s0.trans g0) (fun a wx hf => ?_)
         obtain ⟨v60,g60,s60⟩:=hf.got 14 (by kernel_rfl) (by intro j hj; simp [eats] at hj) rfl rfl;replace s60:=s60.trans (show v60 = .agg #[.int .i64 u.kind,.string u.text,.int .i64 u.int,.float .f64 u.real,.bool u.flag,.slice ad u.list.length cap] from g60);clear g60;have q60:=An s60;have hI:=hf.start (by kernel_rfl);exact Bh (f:=16) (args:=#[.agg #[.int .i64 u.kind,.string u.text,.int .i64 u.int,.float .f64 u.real,.bool u.flag,.slice ad u.list.length cap],.int .i64 2]) (by simp [go_sem,q60]) (hbU wx hI)
       · refine VC.guarded (g:=10) (b:=true) (t:=56) rfl rfl rfl (fun a wx hf => by obtain ⟨v0,g0,s0⟩:=hf.got 10 (by kernel_rfl) (by intro j hj; simp [eats] at hj) rfl rfl; exact s0.trans g0) (fun a wx hf => ?_)
         obtain ⟨v61,g61,s61⟩:=hf.got 15 (by kernel_rfl) (by intro j hj; simp [eats] at hj) rfl rfl;have q61:=An s61;replace g61 : (fun (v : Value) (w : World) => Row W.heap.size w v X /\ Below W.heap.size W w) v61 wx:=g61;dsimp only at g61;have hI:=hf.start (by kernel_rfl);exact Ag (by simp [go_sem,q61,g61.1.back hpx]) ⟨hf.c,rfl,rfl⟩
       · refine VC.guarded (g:=10) (b:=true) (t:=56) rfl rfl rfl (fun a wx hf => by obtain ⟨v0,g0,s0⟩:=hf.got 10 (by kernel_rfl) (by intro j hj; simp [eats] at hj) rfl rfl; exact s0.trans g0) (fun a wx hf => ?_)
         obtain ⟨v59,g59,s59⟩:=hf.got 13 (by kernel_rfl) (by intro j hj; simp [eats] at hj) rfl rfl;replace s59:=s59.trans (show v59 = .string X from g59);clear g59;have q59:=An s59;obtain ⟨v62,g62,s62⟩:=hf.got 16 (by kernel_rfl) (by intro j hj; simp [eats] at hj) rfl rfl;replace s62:=s62.trans (show v62 = .string X from g62);clear g62;have q62:=An s62;exact Ag (by simp [go_sem,q59,q62]) ⟨hf.c,rfl,rfl⟩
       · refine VC.plain rfl fun a wx hf => ?_
         obtain ⟨v56,g56,s56⟩:=hf.got 10 (by kernel_rfl) (by intro j hj; simp [eats] at hj) rfl rfl;replace s56:=s56.trans (show v56 = .bool true from g56);clear g56;have q56:=An s56;obtain ⟨v63,g63,s63⟩:=hf.got 17 (by kernel_rfl) (by intro j hj; simp [eats] at hj) rfl rfl;replace s63:=s63.trans (show v63 = .bool true from g63);clear g63;have q63:=An s63;have hI:=hf.start (by kernel_rfl);exact Ag (by simp [go_sem,q56,q63]) ⟨hf.c,rfl,rfl⟩
       · refine VC.plain rfl fun a wx hf => ?_
         obtain ⟨v64,g64,s64⟩:=hf.got 18 (by kernel_rfl) (by intro j hj; simp [eats] at hj) rfl rfl;replace s64:=s64.trans (show v64 = .bool true from g64);clear g64;have q64:=An s64;have hI:=hf.start (by kernel_rfl);exact Ag (by simp [go_sem,q64]) ⟨hf.c,rfl,rfl⟩
     · intro vs w9 hb9 hG
       have n19 : vs 19 = .bool true:=hG 19 (by decide) (by decide);have hbf:=hbWf.out.trans (hb9.mono hbWf.out.size);replace hbf:=Hd hbf;clear hsm hrd hwd hbU hbD hvD hrD hr6 hG hb9;simp only [putFrom,Act.put,List.setIfInBounds_toArray,List.set_cons_zero,List.set_cons_succ,n19];clear n19;go_wp2_with fail
       go_ret;exact ⟨rfl,hbf.out⟩
end R2
end Go.Proofs.YtagkgfniihiinaaGreatDoor
