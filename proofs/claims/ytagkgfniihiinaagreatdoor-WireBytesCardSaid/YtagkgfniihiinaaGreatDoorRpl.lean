/- sync.Once's own parts, in the run of one goroutine. -/
import Derived.Test.YtagkgfniihiinaaGreatDoorJ43
import Derived.Test.YtagkgfniihiinaaGreatDoorProg
import Derived.Laws.LoneSync
import Derived.Test.YtagkgfniihiinaaGreatDoorJ40
namespace Go.Proofs.YtagkgfniihiinaaGreatDoor
open Go.RowKit
theorem disable_run (w : World) : (callFunc 189 #[]).run Tryz.prog w = .ok (.value (.tuple #[])) w:=run_call_mark0 Tryz.func189 (by kernel_rfl) (by kernel_rfl) (by kernel_rfl) _ (by rfl) w
theorem enable_run (w : World) : (callFunc 191 #[]).run Tryz.prog w = .ok (.value (.tuple #[])) w:=run_call_mark0 Tryz.func191 (by kernel_rfl) (by kernel_rfl) (by kernel_rfl) _ (by rfl) w
theorem acquire_run (a : Addr) (w : World) : (callFunc 192 #[.pointer (some a)]).run Tryz.prog w = .ok (.value (.tuple #[])) w:=run_call_marked Tryz.func192 (by kernel_rfl) (by kernel_rfl) (by kernel_rfl) _ (by rfl) a w
theorem release_run (a : Addr) (w : World) : (callFunc 194 #[.pointer (some a)]).run Tryz.prog w = .ok (.value (.tuple #[])) w:=run_call_marked Tryz.func194 (by kernel_rfl) (by kernel_rfl) (by kernel_rfl) _ (by rfl) a w
theorem cas_run {a : Addr} {x y : Int} {w : World} (hc : w.cell? a = some (.int .i32 x)) (hz : w.frozen? a = false) : (callFunc 190 #[.pointer (some a),.int .i32 x,.int .i32 y]).run Tryz.prog w = .ok (.value (.bool true)) (w.setCell a (.int .i32 y)):=
 run_call_cas_hit Tryz.func190 (by kernel_rfl) (by kernel_rfl) (by kernel_rfl) .i32 (by rfl) hc hz
theorem load32_run {a : Addr} {x : Int} {w : World} (hc : w.cell? a = some (.int .u32 x)) : (callFunc 119 #[.pointer (some a)]).run Tryz.prog w = .ok (.value (.int .u32 x)) w:=
 run_call_load Tryz.func119 (by kernel_rfl) (by kernel_rfl) (by kernel_rfl) .u32 (by rfl) hc
theorem store32_run {a : Addr} {y : Int} {u : Value} {w : World} (hc : w.cell? a = some u) (hz : w.frozen? a = false) : (callFunc 156 #[.pointer (some a),.int .u32 y]).run Tryz.prog w = .ok (.value (.tuple #[])) (w.setCell a (.int .u32 y)):=
 run_call_store Tryz.func156 (by kernel_rfl) (by kernel_rfl) (by kernel_rfl) (by rfl) hc hz
theorem add32_run {a : Addr} {w : World} (hc : w.cell? a = some (.int .i32 1)) (hz : w.frozen? a = false) : (callFunc 195 #[.pointer (some a),.int .i32 (-1)]).run Tryz.prog w = .ok (.value (.int .i32 0)) (w.setCell a (.int .i32 0)):=
 run_call_add Tryz.func195 (by kernel_rfl) (by kernel_rfl) (by kernel_rfl) .i32 (by rfl) hc hz (by simp [go_sem]; decide)
theorem load_any {r o : Nat} {x : Int} {w : World} (hc : w.cell? ⟨r,o,none⟩ = some (.int .u32 x)) : Calls Tryz.prog 98 #[.pointer (some ⟨r,o,none⟩)] w fun e w' => e = .returned (.bool (x != 0)) /\ w' = w:=by
 have h1:=load32_run hc
 go_enter Tryz.func98,Tryz.ntmps98
 go_wp2_with fail
 go_ret;exact ⟨rfl,rfl⟩
theorem b32_any (w : World) : Calls Tryz.prog 157 #[.bool true] w fun e w' => e = .returned (.int .u32 1) /\ w' = w:=by
 go_enter Tryz.func157,Tryz.ntmps157
 go_wp2_with fail
 go_ret;exact ⟨rfl,rfl⟩
set_option maxRecDepth 100000 in
theorem iLock_any {r o : Nat} {w : World} (hc : w.cell? ⟨r,o,none⟩ = some (.int .i32 0)) (hz : w.frozen? ⟨r,o,none⟩ = false) : Calls Tryz.prog 154 #[.pointer (some ⟨r,o,none⟩)] w fun e w' => e = .returned (.tuple #[]) /\ w' = w.setCell ⟨r,o,none⟩ (.int .i32 1):=by
 have h1:=cas_run (y:=1) hc hz;have h2:=disable_run w;have h3:=enable_run (w.setCell ⟨r,o,none⟩ (.int .i32 1));have h4:=acquire_run ⟨r,o,none⟩ (w.setCell ⟨r,o,none⟩ (.int .i32 1));have h5:=run_convert_to_unsafe (P:=Tryz.prog) (src:=Tryz.f154.params.toList.headD 0) (dst:=253) (t:=117) (by kernel_rfl) Tryz.underlying253 (by kernel_rfl) (As (v:=.int .i32 1) hc);rw [Tryz.params154] at h5;dsimp only [List.headD] at h5
 go_enter Tryz.func154,Tryz.ntmps154
 go_wp2_with fail
 refine bodyPost_ret (results_none rfl _ _ _) rfl ?_;exact ⟨rfl,rfl⟩
set_option maxRecDepth 100000 in
theorem Lock_any {r o : Nat} {w : World} (hc : w.cell? ⟨r,o,none⟩ = some (.int .i32 0)) (hz : w.frozen? ⟨r,o,none⟩ = false) : Calls Tryz.prog 120 #[.pointer (some ⟨r,o,none⟩)] w fun e w' => e = .returned (.tuple #[]) /\ w' = w.setCell ⟨r,o,none⟩ (.int .i32 1):=by
 go_enter Tryz.func120,Tryz.ntmps120
 go_wp2_with fail
 refine (iLock_any hc hz).mono ?_;rintro e w' ⟨rfl,hww⟩;obtain rfl:=hww.symm;go_wp2_with fail
 go_end0
 exact ⟨rfl,rfl⟩
set_option maxRecDepth 100000 in
theorem iUnlock_any {r o : Nat} {w : World} (hc : w.cell? ⟨r,o,none⟩ = some (.int .i32 1)) (hz : w.frozen? ⟨r,o,none⟩ = false) : Calls Tryz.prog 155 #[.pointer (some ⟨r,o,none⟩)] w fun e w' => e = .returned (.tuple #[]) /\ w' = w.setCell ⟨r,o,none⟩ (.int .i32 0):=by
 have h1:=add32_run hc hz;have h2:=disable_run w;have h3:=enable_run (w.setCell ⟨r,o,none⟩ (.int .i32 0));have h4:=release_run ⟨r,o,none⟩ w;have h5:=run_convert_to_unsafe (P:=Tryz.prog) (src:=Tryz.f154.params.toList.headD 0) (dst:=253) (t:=117) (by kernel_rfl) Tryz.underlying253 (by kernel_rfl) hc;rw [Tryz.params154] at h5;dsimp only [List.headD] at h5
 go_enter Tryz.func155,Tryz.ntmps155
 go_wp2_with fail
 go_end0
 exact ⟨rfl,rfl⟩
set_option maxRecDepth 100000 in
theorem unlock_d {r o : Nat} {u : FrameMode} {w : World} (hc : w.cell? ⟨r,o,none⟩ = some (.int .i32 1)) (hz : w.frozen? ⟨r,o,none⟩ = false) : CallsD Tryz.prog 121 #[.pointer (some ⟨r,o,none⟩)] u w fun e u' w' => u' = u /\ e = .returned (.tuple #[]) /\ w' = w.setCell ⟨r,o,none⟩ (.int .i32 0):=by
 go_enter_d Tryz.func121,Tryz.ntmps121
 go_wp2_with fail
 refine (iUnlock_any hc hz).mono ?_;rintro e w' ⟨rfl,hww⟩;obtain rfl:=hww.symm;go_wp2_with fail
 go_end0
 exact ⟨rfl,rfl⟩
structure StC (r o : Nat) (w0 w : World) : Prop where
 fr : Fr (fun k => k = r) w0 w
 cell : ∃ x,w.cell? ⟨r,o,none⟩ = some x
 blk : Blk w r
 old : ∀ q,q ≠ o -> w.cell? ⟨r,q,none⟩ = w0.cell? ⟨r,q,none⟩
def stR (r : Nat) (i : Nat) (w w' : World) : Prop:=match i with
 | 5 => Fr (fun k => k = r) w w'
 | _ => w' = w
namespace R2
set_option maxRecDepth 100000 in
theorem store_d {r o : Nat} {fm : FrameMode} {y0 : Value} {w0 : World} (hc : w0.cell? ⟨r,o,none⟩ = some y0) (hk : Blk w0 r) : CallsD Tryz.prog 122 #[.pointer (some ⟨r,o,none⟩),.bool true] fm w0 fun e u' w' => u' = fm /\ e = .returned (.tuple #[]) /\ w'.cell? ⟨r,o,none⟩ = some (.int .u32 1) /\ StC r o w0 w':=by
 have hCW : StC r o w0 w0.drew:=⟨(Fr.refl _ _).drew,⟨_,hc⟩,hk.drew,fun _ _ => rfl⟩
 go_enter_d Tryz.func122,Tryz.ntmps122
 refine wp_region_rely (l:=[_,_,_,_,_,_]) (StC r o w0) (fun _ => True) (stR r) (fun kG_ => ([fun v _ => v = .pointer (some ⟨r,o,none⟩),fun v _ => v = .pointer (some ⟨r,o,none⟩),fun v _ => v = .pointer (some ⟨r,o,none⟩),fun v _ => v = .bool true,fun v _ => v = .int .u32 1,fun v w => w.cell? ⟨r,o,none⟩ = some (.int .u32 1)] : List (Value -> World -> Prop)).getD kG_ (fun _ _ => True)) (eats []) (isIn []) (by kernel_rfl) (by kernel_rfl) (by kernel_rfl) hCW trivial ?_ ?_ ?_ ?_
 · intro i kG_ u w w' hne hE hg hr
   rcases kG_ with _ | _ | _ | _ | _ | _ | kG_
   · exact hg
   · exact hg
   · exact hg
   · exact hg
   · exact hg
   · replace hg : (fun (v : Value) (w : World) => w.cell? ⟨r,o,none⟩ = some (.int .u32 1)) u w:=hg
     show (fun (v : Value) (w : World) => w.cell? ⟨r,o,none⟩ = some (.int .u32 1)) u w';dsimp only at hg ⊢;replace hE : exB _ _ i 5 = false:=hE;replace hne : 5 ≠ i:=hne;unfold stR at hr;split at hr
     all_goals first
       | exact absurd rfl hne
       | exact absurd (hE.symm.trans (by decide +kernel : exB _ _ _ _ = true)) (by decide)
       | (subst hr; exact hg)
       | (fail)
   · trivial
 · exact fun _ _ _ _ _ _ => trivial
 · refine ⟨?_,?_,?_,?_,?_,?_,trivial⟩
   · refine VC.plain rfl fun a wx hf => ?_
     have s0:=hf.old 0 (by first | rfl | kernel_rfl);have q0:=An s0;exact Ag (by simp [go_sem,q0]) ⟨hf.c,rfl,rfl⟩
   · refine VC.plain rfl fun a wx hf => ?_
     obtain ⟨v4,g4,s4⟩:=hf.got 0 (by kernel_rfl) (by intro j hj; simp [eats] at hj) rfl rfl;replace s4:=s4.trans (show v4 = .pointer (some ⟨r,o,none⟩) from g4);clear g4;have q4:=An s4;exact Ag (by simp [go_sem,q4]) ⟨hf.c,rfl,rfl⟩
   · refine VC.plain rfl fun a wx hf => ?_
     obtain ⟨v5,g5,s5⟩:=hf.got 1 (by kernel_rfl) (by intro j hj; simp [eats] at hj) rfl rfl;replace s5:=s5.trans (show v5 = .pointer (some ⟨r,o,none⟩) from g5);clear g5;have q5:=An s5;exact Ag (by simp [go_sem,q5]) ⟨hf.c,rfl,rfl⟩
   · refine VC.plain rfl fun a wx hf => ?_
     have s1:=hf.old 1 (by first | rfl | kernel_rfl);have q1:=An s1;exact Ag (by simp [go_sem,q1]) ⟨hf.c,rfl,rfl⟩
   · refine VC.plain rfl fun a wx hf => ?_
     obtain ⟨v7,g7,s7⟩:=hf.got 3 (by kernel_rfl) (by intro j hj; simp [eats] at hj) rfl rfl;replace s7:=s7.trans (show v7 = .bool true from g7);clear g7;have q7:=An s7;exact Bh (f:=157) (args:=#[.bool true]) (by simp [go_sem,q7]) ((b32_any wx).mono fun e w' ⟨he,hw⟩ => ⟨_,he,by subst hw; exact ⟨hf.c,rfl,rfl⟩⟩)
   · refine VC.plain rfl fun a wx hf => ?_
     obtain ⟨v6,g6,s6⟩:=hf.got 2 (by kernel_rfl) (by intro j hj; simp [eats] at hj) rfl rfl;replace s6:=s6.trans (show v6 = .pointer (some ⟨r,o,none⟩) from g6);clear g6;have q6:=An s6;obtain ⟨v8,g8,s8⟩:=hf.got 4 (by kernel_rfl) (by intro j hj; simp [eats] at hj) rfl rfl;replace s8:=s8.trans (show v8 = .int .u32 1 from g8);clear g8;have q8:=An s8;obtain ⟨y,hy⟩:=hf.c.cell;have hrun:=store32_run (y:=1) hy (hf.c.blk.frz o none);have hfw : Fr (fun k => k = r) wx (wx.setCell ⟨r,o,none⟩ (.int .u32 1)):=Fr.setCell (S:=fun k => k = r) (Fr.refl _ _) (fun _ => rfl) _;exact Ag (u:=.tuple #[]) (w':=wx.setCell ⟨r,o,none⟩ (.int .u32 1)) (by simp [go_sem,q6,q8,hrun]) ⟨⟨hf.c.fr.trans hfw,⟨_,As hy⟩,hf.c.blk.setCell _ _,fun q hq => by rw [Af (by intro e; cases e; exact hq rfl)]; exact hf.c.old q hq⟩,hfw,As hy⟩
 · intro vs w5 hC hG
   have g5 : w5.cell? ⟨r,o,none⟩ = some (.int .u32 1):=hG 5 (by decide) (by intro i hi; simp [eats]);clear hG;refine bodyPost_end (results_none rfl _ _ _) rfl ?_;exact ⟨rfl,g5,hC⟩
end R2
end Go.Proofs.YtagkgfniihiinaaGreatDoor
