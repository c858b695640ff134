/- WireCommands: its walk. -/
import Derived.Test.YtagkgfniihiinaaGreatDoorJ27
import Derived.Test.YtagkgfniihiinaaGreatDoorJ86
import Derived.Lib.ItoaNum
import Derived.Lib.ItoaLen
import Derived.Lib.SmallJoins
import Derived.Test.YtagkgfniihiinaaGreatDoorJ49
import Derived.Deep.AppendLies
import Derived.Test.YtagkgfniihiinaaGreatDoorJ70
import Derived.Test.YtagkgfniihiinaaGreatDoorJ60
import Derived.Test.YtagkgfniihiinaaGreatDoorAll03
import Derived.Test.YtagkgfniihiinaaGreatDoorSame03
set_option linter.all false
namespace Go.Proofs.YtagkgfniihiinaaGreatDoor
open Go.RowKit Go.Joins
theorem Gc {w w' : World} {b o:Nat} {cs:List Value} (hb:Below w.heap.size w w') (h:w.rangeAt b o cs):w'.rangeAt b o cs:=fun j u hj=>Aa hb _ _ (h j u hj)
set_option maxRecDepth 100000 in
set_option maxHeartbeats 1600000 in
theorem bytes3_any (v:V) (a:Option Addr) (cap:Nat) (d:Int) (w:World) (hv:RV w.cell? (At v.kind v.text v.int v.real v.flag a v.list.length cap) v) (hf:v.fine d=true) (hr:v.ranged) (hc:v.count<=100000) (hL:LaidV w.heap.size w) :
   Calls Tryz.prog 16 #[.agg #[.int .i64 v.kind,.string v.text,.int .i64 v.int,.float .f64 v.real,.bool v.flag,.slice a v.list.length cap],.int .i64 3] w fun e w' => ∃b,e=.returned b/\Row w.heap.size w' b ⟨v.wire.toArray⟩/\Below w.heap.size w w' := by
 obtain ⟨W1,hW1⟩:∃W1,W1=w.alloc (.cells #[.int .i64 v.kind,.string v.text,.int .i64 v.int,.float .f64 v.real,.bool v.flag,.slice a v.list.length cap] 26):=⟨_,rfl⟩
 have hb0:Below w.heap.size w W1:=by rw [hW1];exact (Below.refl _ _).alloc (Nat.le_refl _) _
 have hput:=put_any v v.kind v.text v.int v.real v.flag a v.list.length cap d w.heap.size W1 (.slice none 0 0) ⟨#[]⟩ ⟨(hv.mono (older_of (Nat.le_refl _))).mono (F0 hb0),hf,hr,hc,hL.below hb0 (Nat.le_refl _),Row.nil _ _,hb0.size,by
   have e:(⟨#[]⟩:ByteArray).size=0:=rfl;omega⟩
 rw [hW1] at hput
 replace hput:=Hd hput
 replace hb0:=Hd hb0
 replace hW1:=Hd hW1
 clear hv hL
 go_enter Tryz.func16,Tryz.ntmps16
 go_wp2_with fail
 refine hput.out.mono ?_
 rintro e w' ⟨b,rfl,hR,hb,-⟩
 rw [Gg] at hR
 rw [<-hW1.out] at hb
 have hb2:=hb0.out.trans hb
 clear hb
 replace hR:=Hd hR
 replace hb2:=Hd hb2
 go_wp2_with fail
 go_ret
 exact ⟨_,rfl,hR.out,hb2.out⟩
namespace R2
end R2
end Go.Proofs.YtagkgfniihiinaaGreatDoor
