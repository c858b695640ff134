/- ParseFloat: nought; numbers beyond all. -/
import Derived.Test.YteoalcmhdoopnaaGreatDoorJ30
namespace Go.Proofs.YteoalcmhdoopnaaGreatDoor
open Go.RowKit
set_option maxRecDepth 100000 in
set_option maxHeartbeats 1600000 in
theorem atof_zero {s:ByteArray} {neg d:Bool} {L:List UInt8} {m:Nat} {x:Int} (h:FTxt s neg d L m x) (h0:Ak L=0) {w:World} (hP:Par w) :
   Calls Tryz.prog 88 #[.string s] w fun e w' => e=.returned (.tuple #[.float .f64 (if neg then 9223372036854775808 else 0),.int .i64 (s.size:Int),.nilIface])/\w' = w:=by
 have hrf:=Cg h w
 obtain ⟨⟨c,body,rest,hs,hc,_⟩,hsz,_⟩:=h
 have hsp:=C4 hs hc hsz w
 have hx:expF d L m x=0:=by unfold expF;rw [if_pos h0]
 rw [h0,hx] at hrf
 have hopt:=hP.opt
 have hb:=Bt neg
 have hsz2:(s.size:Int)<=1000:=by omega
 have hf:=B0
 have o1:bits .or .u64 9223372036854775808 0=9223372036854775808:=by decide
 have o2:bits .or .u64 0 0=0:=by decide
 have f1:∀w,(callFunc 123 #[.int .u64 9223372036854775808]).run Tryz.prog w=.ok (.value (.float .f64 9223372036854775808)) w:=fun w=>B0 9223372036854775808 w
 have f2:∀w,(callFunc 123 #[.int .u64 0]).run Tryz.prog w=.ok (.value (.float .f64 0)) w:=fun w=>B0 0 w
 obtain ⟨tr,htr⟩:∃tr,tr=Az L:=⟨_,rfl⟩
 rw [<-htr] at hrf
 replace hrf:=Hd hrf
 replace hsp:=Hd hsp
 replace hb:=Hd hb
 clear h0 hx hs hc htr hf
 cases neg
 all_goals
   go_enter Tryz.func88,Tryz.ntmps88
   go_wp2_with fail
   refine hsp.out.mono ?_
   rintro e w' ⟨rfl,hww⟩
   obtain rfl:=hww.symm
   clear hww
   go_wp2_with fail
   refine hrf.out.mono ?_
   rintro e w' ⟨rfl,hww⟩
   obtain rfl:=hww.symm
   clear hww
   go_wp2_with fail
   refine (hb.out _).mono ?_
   rintro e w' ⟨rfl,hww⟩
   obtain rfl:=hww.symm
   clear hww
   go_wp2
 · exact bodyPost_ret (v:=.tuple #[.float .f64 0,.int .i64 (s.size:Int),.nilIface]) (by simp [results,Tryz.results88,go_sem]) rfl ⟨rfl,rfl⟩
 · exact bodyPost_ret (v:=.tuple #[.float .f64 9223372036854775808,.int .i64 (s.size:Int),.nilIface]) (by simp [results,Tryz.results88,go_sem]) rfl ⟨rfl,rfl⟩
end Go.Proofs.YteoalcmhdoopnaaGreatDoor
