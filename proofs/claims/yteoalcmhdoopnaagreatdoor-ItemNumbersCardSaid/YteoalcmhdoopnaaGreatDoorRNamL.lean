/- real.Parse of what has no digits, of nought, of what is beyond all; RealNames: its walk. -/
import Derived.Test.YteoalcmhdoopnaaGreatDoorAtof2
import Derived.Test.YteoalcmhdoopnaaGreatDoorRSums
import Derived.Test.YteoalcmhdoopnaaGreatDoorJ37
namespace Go.Proofs.YteoalcmhdoopnaaGreatDoor
open Go.RowKit
structure Rng (w:World):Prop where
 rng:∃te pe,w.cell? ⟨2,0,none⟩=some (.iface te pe)
theorem Rng.below {w w' : World} (h:Rng w) (hb:Below w.heap.size w w'):Rng w' := let ⟨te,pe,hv⟩:=h.rng;⟨te,pe,Bx hb _ _ hv⟩
theorem inf_pos (w:World):Calls Tryz.prog 49 #[.int .i64 1] w fun e w' => e=.returned (.float .f64 9218868437227405312)/\w' = w:=by
 have f1:∀w,(callFunc 9 #[.int .u64 9218868437227405312]).run Tryz.prog w=.ok (.value (.float .f64 9218868437227405312)) w:=fun w=>Cb 9218868437227405312 w
 go_enter Tryz.func49,Tryz.ntmps49
 go_wp2;go_ret;exact ⟨rfl,rfl⟩
theorem inf_neg (w:World):Calls Tryz.prog 49 #[.int .i64 (-1)] w fun e w' => e=.returned (.float .f64 18442240474082181120)/\w' = w:=by
 have f1:∀w,(callFunc 9 #[.int .u64 18442240474082181120]).run Tryz.prog w=.ok (.value (.float .f64 18442240474082181120)) w:=fun w=>Cb 18442240474082181120 w
 go_enter Tryz.func49,Tryz.ntmps49
 go_wp2;go_ret;exact ⟨rfl,rfl⟩
theorem parse_inf (w:World):Calls Tryz.prog 30 #[.string ⟨#[105,110,102]⟩] w fun e w' => e=.returned (.tuple #[.float .f64 9218868437227405312,.int .i64 0])/\w' = w:=by
 have hi:=inf_pos
 go_enter Tryz.func30,Tryz.ntmps30
 go_wp2_with fail
 refine (hi _).mono ?_;rintro e w' ⟨rfl,hww⟩;obtain rfl:=hww.symm;clear hww;go_wp2
 go_ret2
 exact ⟨rfl,rfl⟩
theorem parse_minf (w:World):Calls Tryz.prog 30 #[.string ⟨#[45,105,110,102]⟩] w fun e w' => e=.returned (.tuple #[.float .f64 18442240474082181120,.int .i64 0])/\w' = w:=by
 have hi:=inf_neg
 go_enter Tryz.func30,Tryz.ntmps30
 go_wp2_with fail
 refine (hi _).mono ?_;rintro e w' ⟨rfl,hww⟩;obtain rfl:=hww.symm;clear hww;go_wp2
 go_ret2
 exact ⟨rfl,rfl⟩
theorem parse_nan (w:World):Calls Tryz.prog 30 #[.string ⟨#[110,97,110]⟩] w fun e w' => e=.returned (.tuple #[.float .f64 9221120237041090561,.int .i64 0])/\w' = w:=by
 have f1:∀w,(callFunc 9 #[.int .u64 9221120237041090561]).run Tryz.prog w=.ok (.value (.float .f64 9221120237041090561)) w:=fun w=>Cb 9221120237041090561 w
 go_enter Tryz.func30,Tryz.ntmps30
 go_wp2
 go_ret2
 exact ⟨rfl,rfl⟩
end Go.Proofs.YteoalcmhdoopnaaGreatDoor
