/- math.IsNaN, math.IsInf, real.Bits. -/
import Derived.Test.YteoalcmhdoopnaaGreatDoorFlo
import Derived.Test.YteoalcmhdoopnaaGreatDoorBase
import Derived.Test.YteoalcmhdoopnaaGreatDoorBitR
import Derived.Test.YteoalcmhdoopnaaGreatDoorProg
namespace Go.Proofs.YteoalcmhdoopnaaGreatDoor
open Go.RowKit
theorem mbits_run (r:Nat) (w:World):(callFunc 40 #[.float .f64 r]).run Tryz.prog w=.ok (.value (.int .u64 r)) w:=by kernel_rfl
theorem Bs (r:Nat) (w:World):(callFunc 9 #[.int .u64 (r:Int)]).run Tryz.prog w=.ok (.value (.float .f64 r)) w:=by kernel_rfl
theorem nan_ne {r:Nat} (h:r<18446744073709551616):(FloatKind.f64.format.order r r != some .eq)=nanF r:=by
 have:=order_self h;show (!(Ieee.double.order r r == some .eq))=nanF r;rw [this];simp
theorem isNaN_any {r:Nat} (h:r<18446744073709551616) (w:World):Calls Tryz.prog 51 #[.float .f64 r] w fun e w' => e=.returned (.bool (nanF r))/\w' = w:=by
 have hn:=nan_ne h
 go_enter Tryz.func51,Tryz.ntmps51
 go_wp2;go_ret;exact ⟨by rw [<-hn];rfl,rfl⟩
theorem inf_gt {r:Nat} (h:r<18446744073709551616) (hn:nanF r=false):(some (compare (sv r) (sv 9218868437227405311)) == some Ordering.gt)=decide (r=9218868437227405312):=by
 have hn2:r % 9223372036854775808<=9218868437227405312:=by unfold nanF at hn;simpa using hn
 have e1:sv 9218868437227405311=9218868437227405311:=by decide
 rw [e1];have key:sv r > 9218868437227405311 ↔ r=9218868437227405312:=by unfold sv;split<;>omega
 by_cases hr:r=9218868437227405312
 · rw [decide_eq_true hr,Int.compare_eq_gt.2 (key.2 hr)];rfl
 · rw [decide_eq_false hr]
   cases hc:compare (sv r) 9218868437227405311 with
   | gt=>exact absurd (key.1 (Int.compare_eq_gt.1 hc)) hr
   | lt=>rfl
   | eq=>rfl
theorem bits_clear {r:Nat} (h:r<18446744073709551616):bits .andNot .u64 (r:Int) 9223372036854775808=((r % 9223372036854775808:Nat):Int):=by
 show IntKind.u64.wrap (((BitVec.ofInt 64 (r:Int)) &&& ~~~(BitVec.ofInt 64 9223372036854775808)).toNat:Int)=_;rw [BitVec.toNat_and,Bq r h];have e1:(~~~(BitVec.ofInt 64 9223372036854775808)).toNat=2 ^ 63 - 1:=by decide
 rw [e1,Nat.and_two_pow_sub_one_eq_mod];simp [IntKind.wrap,IntKind.bits,IntKind.signed];omega
set_option maxRecDepth 100000 in
theorem abs_any {r:Nat} (h:r<18446744073709551616) (w:World):Calls Tryz.prog 68 #[.float .f64 r] w fun e w' => e=.returned (.float .f64 (r % 9223372036854775808))/\w' = w:=by
 have hb:=mbits_run r;have hc:=bits_clear h;obtain ⟨m,hm⟩:∃m,m=r % 9223372036854775808:=⟨_,rfl⟩;rw [<-hm] at hc ⊢;have hf:=Bs m;replace hm:=Hd hm
 go_enter Tryz.func68,Tryz.ntmps68
 go_wp2;go_ret;exact ⟨rfl,rfl⟩
theorem isInf_any {r:Nat} (h:r<18446744073709551616) (hn:nanF r=false) (w:World):Calls Tryz.prog 52 #[.float .f64 r,.int .i64 0] w fun e w' => e=.returned (.bool (decide (r % 9223372036854775808=9218868437227405312)))/\w' = w:=by
 have ha:=abs_any h w;obtain ⟨m,hm⟩:∃m,m=r % 9223372036854775808:=⟨_,rfl⟩;have hmn:nanF m=false:=by unfold nanF at hn ⊢;rw [hm];simpa using hn
 rw [<-hm] at ha ⊢;have hm9:m<18446744073709551616:=by omega
 replace hm:=Hd hm
 go_enter Tryz.func52,Tryz.ntmps52
 go_wp2_with fail
 refine ha.mono ?_;rintro e w' ⟨rfl,rfl⟩;go_wp2;go_ret;refine ⟨?_,rfl⟩;have h2:Ieee.double.order m 9218868437227405311=some (compare (sv m) (sv 9218868437227405311)):=order_sv hm9 (by decide) hmn (by decide);show Ending.returned (Value.bool (Ieee.double.order m 9218868437227405311 == some Ordering.gt))=_;rw [h2];congr 2;exact inf_gt hm9 hmn
end Go.Proofs.YteoalcmhdoopnaaGreatDoor
