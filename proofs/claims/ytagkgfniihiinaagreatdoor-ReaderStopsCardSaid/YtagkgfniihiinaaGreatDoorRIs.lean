/- math.IsNaN, math.IsInf, real.Bits. -/
import Derived.Test.YtagkgfniihiinaaGreatDoorJ83
import Derived.Test.YtagkgfniihiinaaGreatDoorJ56
import Derived.Test.YtagkgfniihiinaaGreatDoorProg
set_option linter.all false
namespace Go.Proofs.YtagkgfniihiinaaGreatDoor
open Go.RowKit
theorem mbits_run (r:Nat) (w:World):(callFunc 55 #[.float .f64 r]).run Tryz.prog w=.ok (.value (.int .u64 r)) w:=by kernel_rfl
theorem Ew (r:Nat) (w:World):(callFunc 57 #[.int .u64 (r:Int)]).run Tryz.prog w=.ok (.value (.float .f64 r)) w:=by kernel_rfl
theorem nan_ne {r:Nat} (h:r<18446744073709551616):(FloatKind.f64.format.order r r != some .eq)=nanF r:=by
 have:=order_self h;show (!(Ieee.double.order r r == some .eq))=nanF r;rw [this];simp
theorem isNaN_any {r:Nat} (h:r<18446744073709551616) (w:World):Calls Tryz.prog 76 #[.float .f64 r] w fun e w' => e=.returned (.bool (nanF r))/\w' = w:=by
 have hn:=nan_ne h
 go_enter Tryz.func76,Tryz.ntmps76
 go_wp2;go_ret;exact ⟨by rw [<-hn];rfl,rfl⟩
theorem inf_gt {r:Nat} (h:r<18446744073709551616) (hn:nanF r=false):(some (compare (sv r) (sv 9218868437227405311)) == some Ordering.gt)=decide (r=9218868437227405312):=by
 have hn2:r % 9223372036854775808<=9218868437227405312:=by unfold nanF at hn;simpa using hn
 have e1:sv 9218868437227405311=9218868437227405311:=by decide
 rw [e1];have a:sv r > 9218868437227405311 ↔ r=9218868437227405312:=by unfold sv;split<;>omega
 by_cases hr:r=9218868437227405312
 ·rw [decide_eq_true hr,Int.compare_eq_gt.2 (a.2 hr)];rfl
 ·rw [decide_eq_false hr]
  cases hc:compare (sv r) 9218868437227405311 with
  | gt=>exact absurd (a.1 (Int.compare_eq_gt.1 hc)) hr
  | lt=>rfl
  | eq=>rfl
theorem isInf_pos {r:Nat} (h:r<18446744073709551616) (hn:nanF r=false) (w:World):Calls Tryz.prog 77 #[.float .f64 r,.int .i64 1] w fun e w' => e=.returned (.bool (decide (r=9218868437227405312)))/\w' = w:=by
 go_enter Tryz.func77,Tryz.ntmps77
 go_wp2;go_ret;refine ⟨?_,rfl⟩;have h2:Ieee.double.order r 9218868437227405311=some (compare (sv r) (sv 9218868437227405311)):=Fv h (by decide) hn (by decide);show Ending.returned (Value.bool (Ieee.double.order r 9218868437227405311 == some Ordering.gt))=_;rw [h2];congr 2;exact inf_gt h hn
def flipN (r:Nat):Nat:=if r<9223372036854775808 then r+9223372036854775808 else r - 9223372036854775808
theorem xor63 {r:Nat} (h:r<18446744073709551616):r ^^^ 9223372036854775808=flipN r:=by
 have h1:(r ^^^ 2 ^ 63) % 2 ^ 63=r % 2 ^ 63:=by rw [Nat.xor_mod_two_pow,Nat.mod_self,Nat.xor_zero]
 have h2:(r ^^^ 2 ^ 63) / 2 ^ 63=(r / 2 ^ 63) ^^^ 1:=by rw [Nat.xor_div_two_pow,Nat.div_self (Nat.two_pow_pos 63)]
 have h3:r / 2 ^ 63=0\/r / 2 ^ 63=1:=by omega
 have e:(9223372036854775808:Nat)=2 ^ 63:=by decide
 unfold flipN;rw [e];have h4:=Nat.div_add_mod (r ^^^ 2 ^ 63) (2 ^ 63);have h5:=Nat.div_add_mod r (2 ^ 63);rw [h1,h2] at h4;rcases h3 with h3 | h3
 ·rw [h3] at h4 h5
  have:(0 ^^^ 1:Nat)=1:=by decide
  rw [this] at h4;rw [if_pos (by omega)];omega
 ·rw [h3] at h4 h5
  have:(1 ^^^ 1:Nat)=0:=by decide
  rw [this] at h4;rw [if_neg (by omega)];omega
theorem F0 (r:Nat) (w:World):(Op.unary .neg (.float .f64 r)).run Tryz.prog w=.ok (.float .f64 (Op.negFloat .f64 r)) w:=rfl
theorem isInf_neg {r:Nat} (h:r<18446744073709551616) (hn:nanF r=false) (w:World):Calls Tryz.prog 77 #[.float .f64 r,.int .i64 (-1)] w fun e w' => e=.returned (.bool (decide (r=18442240474082181120)))/\w' = w:=by
 have hg:=F0 r;obtain ⟨m,hm⟩:∃m,m=Op.negFloat .f64 r:=⟨_,rfl⟩;rw [<-hm] at hg;replace hm:=Hd hm
 go_enter Tryz.func77,Tryz.ntmps77
 go_wp2;go_ret;refine ⟨?_,rfl⟩;have hm:=hm.out;have a:m=flipN r:=hm.trans (xor63 h);have b:m<18446744073709551616:=by rw [a];unfold flipN;split<;>omega
 have c:nanF m=false:=by
  have e:m % 9223372036854775808=r % 9223372036854775808:=by rw [a];unfold flipN;split<;>omega
  unfold nanF at hn ⊢;rw [e];exact hn
 have h2:Ieee.double.order m 9218868437227405311=some (compare (sv m) (sv 9218868437227405311)):=Fv b (by decide) c (by decide);show Ending.returned (Value.bool (Ieee.double.order m 9218868437227405311 == some Ordering.gt))=_;rw [h2];congr 2;rw [inf_gt b c];refine decide_eq_decide.2 ?_;rw [a];unfold flipN;split<;>omega
