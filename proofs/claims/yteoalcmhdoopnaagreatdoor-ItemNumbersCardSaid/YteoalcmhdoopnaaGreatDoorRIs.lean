/- math.IsNaN, math.IsInf, real.Bits. -/
import Derived.Test.YteoalcmhdoopnaaGreatDoorJ57
import Derived.Test.YteoalcmhdoopnaaGreatDoorBase
import Derived.Test.YteoalcmhdoopnaaGreatDoorJ22
import Derived.Test.YteoalcmhdoopnaaGreatDoorProg
namespace Go.Proofs.YteoalcmhdoopnaaGreatDoor
open Go.RowKit
theorem mbits_run (r:Nat) (w:World):(callFunc 40 #[.float .f64 r]).run Tryz.prog w=.ok (.value (.int .u64 r)) w:=by kernel_rfl
theorem Cb (r:Nat) (w:World):(callFunc 9 #[.int .u64 (r:Int)]).run Tryz.prog w=.ok (.value (.float .f64 r)) w:=by kernel_rfl
theorem nan_ne {r:Nat} (h:r<18446744073709551616):(FloatKind.f64.format.order r r != some .eq)=nanF r:=by
 have:=order_self h;show (!(Ieee.double.order r r == some .eq))=nanF r;rw [this];simp
theorem isNaN_any {r:Nat} (h:r<18446744073709551616) (w:World):Calls Tryz.prog 51 #[.float .f64 r] w fun e w' => e=.returned (.bool (nanF r))/\w' = w:=by
 have hn:=nan_ne h
 go_enter Tryz.func51,Tryz.ntmps51
 go_wp2;go_ret;exact ⟨by rw [<-hn];rfl,rfl⟩
theorem inf_gt {r:Nat} (h:r<18446744073709551616) (hn:nanF r=false):(some (compare (sv r) (sv 9218868437227405311)) == some Ordering.gt)=decide (r=9218868437227405312):=by
 have hn2:r % 9223372036854775808<=9218868437227405312:=by unfold nanF at hn;simpa using hn
 have e1:sv 9218868437227405311=9218868437227405311:=by decide
 rw [e1];have key:sv r > 9218868437227405311 ↔ r=9218868437227405312:=by unfold sv;split<;>omega
 by_cases hr:r=9218868437227405312
 · rw [decide_eq_true hr,Int.compare_eq_gt.2 (key.2 hr)];rfl
 · rw [decide_eq_false hr]
   cases hc:compare (sv r) 9218868437227405311 with
   | gt=>exact absurd (key.1 (Int.compare_eq_gt.1 hc)) hr
   | lt=>rfl
   | eq=>rfl
theorem isInf_pos {r:Nat} (h:r<18446744073709551616) (hn:nanF r=false) (w:World):Calls Tryz.prog 52 #[.float .f64 r,.int .i64 1] w fun e w' => e=.returned (.bool (decide (r=9218868437227405312)))/\w' = w:=by
 go_enter Tryz.func52,Tryz.ntmps52
 go_wp2;go_ret;refine ⟨?_,rfl⟩;have h2:Ieee.double.order r 9218868437227405311=some (compare (sv r) (sv 9218868437227405311)):=C6 h (by decide) hn (by decide);show Ending.returned (Value.bool (Ieee.double.order r 9218868437227405311 == some Ordering.gt))=_;rw [h2];congr 2;exact inf_gt h hn
def flipN (r:Nat):Nat:=if r<9223372036854775808 then r+9223372036854775808 else r - 9223372036854775808
theorem xor63 {r:Nat} (h:r<18446744073709551616):r ^^^ 9223372036854775808=flipN r:=by
 have h1:(r ^^^ 2 ^ 63) % 2 ^ 63=r % 2 ^ 63:=by rw [Nat.xor_mod_two_pow,Nat.mod_self,Nat.xor_zero]
 have h2:(r ^^^ 2 ^ 63) / 2 ^ 63=(r / 2 ^ 63) ^^^ 1:=by rw [Nat.xor_div_two_pow,Nat.div_self (Nat.two_pow_pos 63)]
 have h3:r / 2 ^ 63=0\/r / 2 ^ 63=1:=by omega
 have e:(9223372036854775808:Nat)=2 ^ 63:=by decide
 unfold flipN;rw [e];have h4:=Nat.div_add_mod (r ^^^ 2 ^ 63) (2 ^ 63);have h5:=Nat.div_add_mod r (2 ^ 63);rw [h1,h2] at h4;rcases h3 with h3 | h3
 · rw [h3] at h4 h5
   have:(0 ^^^ 1:Nat)=1:=by decide
   rw [this] at h4;rw [if_pos (by omega)];omega
 · rw [h3] at h4 h5
   have:(1 ^^^ 1:Nat)=0:=by decide
   rw [this] at h4;rw [if_neg (by omega)];omega
theorem D8 (r:Nat) (w:World):(Op.unary .neg (.float .f64 r)).run Tryz.prog w=.ok (.float .f64 (Op.negFloat .f64 r)) w:=rfl
theorem isInf_neg {r:Nat} (h:r<18446744073709551616) (hn:nanF r=false) (w:World):Calls Tryz.prog 52 #[.float .f64 r,.int .i64 (-1)] w fun e w' => e=.returned (.bool (decide (r=18442240474082181120)))/\w' = w:=by
 have hg:=D8 r;obtain ⟨m,hm⟩:∃m,m=Op.negFloat .f64 r:=⟨_,rfl⟩;rw [<-hm] at hg;replace hm:=Hd hm
 go_enter Tryz.func52,Tryz.ntmps52
 go_wp2;go_ret;refine ⟨?_,rfl⟩;have hm:=hm.out;have hm2:m=flipN r:=hm.trans (xor63 h);have hm9:m<18446744073709551616:=by rw [hm2];unfold flipN;split<;>omega
 have hmn:nanF m=false:=by
   have e:m % 9223372036854775808=r % 9223372036854775808:=by rw [hm2];unfold flipN;split<;>omega
   unfold nanF at hn ⊢;rw [e];exact hn
 have h2:Ieee.double.order m 9218868437227405311=some (compare (sv m) (sv 9218868437227405311)):=C6 hm9 (by decide) hmn (by decide);show Ending.returned (Value.bool (Ieee.double.order m 9218868437227405311 == some Ordering.gt))=_;rw [h2];congr 2;rw [inf_gt hm9 hmn];refine decide_eq_decide.2 ?_;rw [hm2];unfold flipN;split<;>omega
theorem bits_clear {r:Nat} (h:r<18446744073709551616):bits .andNot .u64 (r:Int) 9223372036854775808=((r % 9223372036854775808:Nat):Int):=by
 show IntKind.u64.wrap (((BitVec.ofInt 64 (r:Int)) &&& ~~~(BitVec.ofInt 64 9223372036854775808)).toNat:Int)=_;rw [BitVec.toNat_and,Bc r h];have e1:(~~~(BitVec.ofInt 64 9223372036854775808)).toNat=2 ^ 63 - 1:=by decide
 rw [e1,Nat.and_two_pow_sub_one_eq_mod];simp [IntKind.wrap,IntKind.bits,IntKind.signed];omega
set_option maxRecDepth 100000 in
theorem abs_any {r:Nat} (h:r<18446744073709551616) (w:World):Calls Tryz.prog 68 #[.float .f64 r] w fun e w' => e=.returned (.float .f64 (r % 9223372036854775808))/\w' = w:=by
 have hb:=mbits_run r;have hc:=bits_clear h;obtain ⟨m,hm⟩:∃m,m=r % 9223372036854775808:=⟨_,rfl⟩;rw [<-hm] at hc ⊢;have hf:=Cb m;replace hm:=Hd hm
 go_enter Tryz.func68,Tryz.ntmps68
 go_wp2;go_ret;exact ⟨rfl,rfl⟩
theorem isInf_any {r:Nat} (h:r<18446744073709551616) (hn:nanF r=false) (w:World):Calls Tryz.prog 52 #[.float .f64 r,.int .i64 0] w fun e w' => e=.returned (.bool (decide (r % 9223372036854775808=9218868437227405312)))/\w' = w:=by
 have ha:=abs_any h w;obtain ⟨m,hm⟩:∃m,m=r % 9223372036854775808:=⟨_,rfl⟩;have hmn:nanF m=false:=by unfold nanF at hn ⊢;rw [hm];simpa using hn
 rw [<-hm] at ha ⊢;have hm9:m<18446744073709551616:=by omega
 replace hm:=Hd hm
 go_enter Tryz.func52,Tryz.ntmps52
 go_wp2_with fail
 refine ha.mono ?_;rintro e w' ⟨rfl,rfl⟩;go_wp2;go_ret;refine ⟨?_,rfl⟩;have h2:Ieee.double.order m 9218868437227405311=some (compare (sv m) (sv 9218868437227405311)):=C6 hm9 (by decide) hmn (by decide);show Ending.returned (Value.bool (Ieee.double.order m 9218868437227405311 == some Ordering.gt))=_;rw [h2];congr 2;exact inf_gt hm9 hmn
end Go.Proofs.YteoalcmhdoopnaaGreatDoor
