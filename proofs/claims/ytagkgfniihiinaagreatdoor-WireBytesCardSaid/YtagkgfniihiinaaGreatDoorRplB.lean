/- sync.Once.Do of a Replacer's own building, in the run of one goroutine. -/
import Derived.Test.YtagkgfniihiinaaGreatDoorRpl
import Derived.Defers
import Derived.Tactics2
namespace Go.Proofs.YtagkgfniihiinaaGreatDoor
open Go.RowKit
set_option maxRecDepth 100000 in
set_option maxHeartbeats 1600000 in
theorem doSlow_any {r : Nat} {w : World} {X : World -> Prop} (c0 : w.cell? ⟨r,0,none⟩ = some (.int .u32 0)) (c1 : w.cell? ⟨r,1,none⟩ = some (.int .i32 0)) (hk : Blk w r)
   (hB : Calls Tryz.prog 82 #[.pointer (some ⟨r,0,none⟩)] (w.setCell ⟨r,1,none⟩ (.int .i32 1)) fun e w' => e = .returned (.tuple #[]) /\ w'.cell? ⟨r,0,none⟩ = some (.int .u32 0) /\ w'.cell? ⟨r,1,none⟩ = some (.int .i32 1) /\ Blk w' r /\ X w') :
   Calls Tryz.prog 99 #[.pointer (some ⟨r,0,none⟩),.func (.func 82) #[.pointer (some ⟨r,0,none⟩)] #[]] w fun e w' => e = .returned (.tuple #[]) /\ ∃ w2,X w2 /\ Fr (fun k => k = r) w2 w' /\ ∀ q,2 < q -> w'.cell? ⟨r,q,none⟩ = w2.cell? ⟨r,q,none⟩:=by
 have hmf : ∀ (fn : Fn) (first cap : Array Value) (w : World),(Instr.makeFunc fn first cap).run Tryz.prog w = .ok (.func fn first cap) w:=fun _ _ _ _ => rfl
 have f0:=hk.frz 0 none
 have f1:=hk.frz 1 none
 have hk':=Hd hk
 replace hB:=Hd hB
 clear hk
 go_enter_defers Tryz.func99,Tryz.ntmps99
 go_wp2_with fail
 refine (Lock_any c1 f1).mono ?_
 rintro e w' ⟨rfl,hww⟩
 obtain ⟨w1,hw1⟩ : ∃ W,W = w.setCell ⟨r,1,none⟩ (.int .i32 1):=⟨_,rfl⟩
 rw [<- hw1] at hww hB
 obtain rfl:=hww.symm
 clear hww
 have d0 : w1.cell? ⟨r,0,none⟩ = some (.int .u32 0):=by rw [hw1,Af (by simp)]; exact c0
 clear c0 c1 f0 f1
 replace hw1:=Hd hw1
 go_wp2_with fail
 refine (load_any d0).mono ?_
 rintro e w2 ⟨rfl,hww⟩
 obtain rfl:=hww.symm
 clear hww
 go_wp2_with fail
 refine hB.out.mono ?_
 rintro e w3 ⟨rfl,b0,b1,bk,bX⟩
 have f1:=bk.frz 1 none
 go_wp2_with fail
 refine leaves_cons (f:=122) (args:=#[.pointer (some ⟨r,0,none⟩),.bool true]) (by simp) (by simp [go_sem]) ?_
 refine (R2.store_d b0 bk).mono ?_
 rintro e u' w4 ⟨rfl,rfl,s0,hs⟩
 refine leaves_cons (f:=121) (args:=#[.pointer (some ⟨r,1,none⟩)]) (by simp [settle]) (by simp [go_sem]) ?_
 have s1:=hs.old 1 (by decide)
 rw [b1] at s1
 refine (unlock_d s1 (hs.blk.frz 1 none)).mono ?_
 rintro e u' w5 ⟨rfl,rfl,rfl⟩
 refine ⟨.tuple #[],results_none rfl _ _ _,?_⟩
 refine ⟨rfl,w3,bX,?_,?_⟩
 · exact hs.fr.trans (Fr.setCell (S:=fun k => k = r) (Fr.refl _ _) (fun _ => rfl) _)
 · intro q hq
   rw [Af (by intro e; cases e; omega),hs.old q (by omega)]
end Go.Proofs.YtagkgfniihiinaaGreatDoor
