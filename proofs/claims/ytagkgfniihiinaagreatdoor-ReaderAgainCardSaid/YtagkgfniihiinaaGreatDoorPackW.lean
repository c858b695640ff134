/- internal/strconv.pack64: its walk. -/
import Derived.Test.YtagkgfniihiinaaGreatDoorJ84
set_option linter.all false
namespace Go.Proofs.YtagkgfniihiinaaGreatDoor
open Go.RowKit
theorem and52 {x q c:Nat} (hx:x=q * 4503599627370496+c) (hc:c<4503599627370496):x &&& 4503599627370496=q % 2 * 4503599627370496:=by
 have e:(4503599627370496:Nat)=2 ^ 52:=by decide
 have h1:(x &&& 2 ^ 52) % 2 ^ 52=0:=by rw [Nat.and_mod_two_pow,Nat.mod_self,Nat.and_zero]
 have h2:(x &&& 2 ^ 52) / 2 ^ 52=q % 2:=by
   rw [Nat.and_div_two_pow,Nat.div_self (Nat.two_pow_pos 52),Nat.and_one_is_mod];congr 1;omega
 have h3:=Nat.div_add_mod (x &&& 2 ^ 52) (2 ^ 52);rw [h1,h2] at h3;rw [e];omega
theorem bits_clear52 {t:Nat} (ht:t<18446744073709551616) (ht2:t / 4503599627370496 % 2=0):bits .andNot .u64 ((t+4503599627370496:Nat):Int) 4503599627370496=(t:Int):=by
 have hq:t=t / 4503599627370496 * 4503599627370496+t % 4503599627370496:=by omega
 have ht3:t+4503599627370496<18446744073709551616:=by omega
 have e:(4503599627370496:Nat)=2 ^ 52:=by decide
 have hor:t+4503599627370496=t ||| 4503599627370496:=by
   have h1:(t ||| 2 ^ 52) % 2 ^ 52=t % 2 ^ 52:=by rw [Nat.or_mod_two_pow,Nat.mod_self,Nat.or_zero]
   have h2:(t ||| 2 ^ 52) / 2 ^ 52=t / 2 ^ 52+1:=by
     rw [Nat.or_div_two_pow,Nat.div_self (Nat.two_pow_pos 52),or_one];omega
   have h3:=Nat.div_add_mod (t ||| 2 ^ 52) (2 ^ 52);rw [h1,h2] at h3;rw [e];omega
 show IntKind.u64.wrap (((BitVec.ofInt 64 ((t+4503599627370496:Nat):Int)) &&& ~~~(BitVec.ofInt 64 4503599627370496)).toNat:Int)=_;have hT:BitVec.ofInt 64 ((t+4503599627370496:Nat):Int)=BitVec.ofNat 64 t ||| BitVec.ofNat 64 4503599627370496:=by
   apply BitVec.eq_of_toNat_eq;rw [Bz _ ht3,BitVec.toNat_or,BitVec.toNat_ofNat,BitVec.toNat_ofNat,Nat.mod_eq_of_lt (by omega),Nat.mod_eq_of_lt (by omega),hor]
 have hand:BitVec.ofNat 64 t &&& BitVec.ofNat 64 4503599627370496=0:=by
   apply BitVec.eq_of_toNat_eq;rw [BitVec.toNat_and,BitVec.toNat_ofNat,BitVec.toNat_ofNat,Nat.mod_eq_of_lt (by omega),Nat.mod_eq_of_lt (by omega),and52 (q:=t / 4503599627370496) (c:=t % 4503599627370496) hq (Nat.mod_lt _ (by decide)),ht2];rfl
 have hY:BitVec.ofInt 64 4503599627370496=BitVec.ofNat 64 4503599627370496:=by decide
 have hcl:∀A B:BitVec 64,A &&& B=0->(A ||| B) &&& ~~~B=A:=fun A B h=>by
   apply BitVec.eq_of_getLsbD_eq;intro i hi;have h9:=congrArg (fun z=>z.getLsbD i) h;simp only [BitVec.getLsbD_and,BitVec.getLsbD_zero,BitVec.getLsbD_or,BitVec.getLsbD_not,hi,decide_true,Bool.true_and] at h9 ⊢;revert h9;cases A.getLsbD i<;>cases B.getLsbD i<;>simp
 rw [hT,hY,hcl _ _ hand,BitVec.toNat_ofNat,Nat.mod_eq_of_lt (by omega)];simp [IntKind.wrap,IntKind.bits,IntKind.signed];omega
def sgB (b:Bool):Nat:=if b then 9223372036854775808 else 0
theorem sgB_or (b:Bool) {x:Nat} (h:x<9223372036854775808):sgB b ||| x=sgB b+x:=by
 cases b
 · show 0 ||| x=0+x;simp
 · show 9223372036854775808 ||| x=9223372036854775808+x
   exact (Nat.two_pow_add_eq_or_of_lt (i:=63) (by omega:x<2 ^ 63) 1).symm
def Bd (r:Nat):Value:=if r=9218868437227405312 then .iface 155 (.int .i64 1) else .nilIface
theorem or_place (b:Bool) {c j:Nat} (hc:c<4503599627370496) (hj:j<2048):(sgB b+c) ||| (j * 4503599627370496)=sgB b+(j * 4503599627370496+c):=by
 have h1:j * 4503599627370496+c=j * 4503599627370496 ||| c:=by
   have:=Nat.two_pow_add_eq_or_of_lt (i:=52) (b:=c) (by omega) j;rw [Nat.mul_comm] at this;exact this
 rw [<-sgB_or b (x:=c) (by omega),<-sgB_or b (x:=j * 4503599627370496+c) (by omega),h1,Nat.or_assoc,Nat.or_comm c]
set_option maxRecDepth 100000 in
theorem pack64_any {m k:Nat} {sb:Bool} (hm:m<9007199254740992) (hk:k<=8000) (w:World) :
   Calls Tryz.prog 241 #[.int .u64 ((sgB sb+m:Nat):Int),.int .i64 ((k:Int) - 1074)] w fun e w' => e=.returned (.tuple #[.float .f64 (sgB sb+Cu m k),Bd (Cu m k)])/\w' = w:=by
 have hS:sgB sb<=9223372036854775808:=by unfold sgB;split<;>omega
 have hS2:sgB sb=0\/sgB sb=9223372036854775808:=by unfold sgB;cases sb<;>simp
 have hff:=Cd
 obtain ⟨x,hx⟩:∃x,x=sgB sb+m:=⟨_,rfl⟩
 have hx9:x<18446744073709551616:=by omega
 obtain ⟨e,he⟩:∃e:Int,e=(k:Int) - 1074:=⟨_,rfl⟩
 have he9:-1074<=e/\e<=8000:=by omega
 have hand:bits .and .u64 (x:Int) 4503599627370496=((x / 4503599627370496 % 2 * 4503599627370496:Nat):Int):=by
   have:=B0 (x:=x) (y:=4503599627370496) hx9 (by omega);rw [and52 (q:=x / 4503599627370496) (c:=x % 4503599627370496) (by omega) (Nat.mod_lt _ (by decide))] at this;exact this
 rw [<-hx,<-he]
 by_cases h52:m<4503599627370496
 · have hp:Cu m k=m:=by unfold Cu;rw [if_pos h52]
   have hq:x / 4503599627370496 % 2=0:=by omega
   rw [hq,Nat.zero_mul] at hand;have hand' : bits .and .u64 (x:Int) 4503599627370496=0:=hand;have hr:Bd m=.nilIface:=by unfold Bd;rw [if_neg (by omega)]
   rw [hp,hr,<-hx];have f1:=fun w=>hff x w;clear hp hq hr hand hx he hff
   go_enter Tryz.func241,Tryz.ntmps241
   go_wp2
   go_ret2
   exact ⟨rfl,rfl⟩
 · have hq:x / 4503599627370496 % 2=1:=by omega
   rw [hq,Nat.one_mul] at hand;have hand' : bits .and .u64 (x:Int) 4503599627370496=4503599627370496:=hand;by_cases hk2:2046<=k
   · have hp:Cu m k=9218868437227405312:=by unfold Cu;rw [if_neg h52,if_pos hk2]
     have hr:Bd 9218868437227405312=.iface 155 (.int .i64 1):=if_pos rfl;have hge:(972:Int)<=e:=by omega
     have ha2:bits .and .u64 (x:Int) 9223372036854775808=((sgB sb:Nat):Int):=by
       have h1:=B0 (x:=x) (y:=9223372036854775808) hx9 (by omega);have h2:x &&& 9223372036854775808=sgB sb:=by
         have e1:(9223372036854775808:Nat)=2 ^ 63:=by decide
         have h3:(x &&& 2 ^ 63) % 2 ^ 63=0:=by rw [Nat.and_mod_two_pow,Nat.mod_self,Nat.and_zero]
         have h4:(x &&& 2 ^ 63) / 2 ^ 63=x / 2 ^ 63 % 2:=by rw [Nat.and_div_two_pow,Nat.div_self (Nat.two_pow_pos 63),Nat.and_one_is_mod]
         have h5:=Nat.div_add_mod (x &&& 2 ^ 63) (2 ^ 63);rw [h3,h4] at h5;rw [e1];rcases hS2 with h6 | h6<;>omega
       rw [h2] at h1;exact h1
     obtain ⟨S,hSe⟩:∃S,S=sgB sb:=⟨_,rfl⟩;have hor:bits .or .u64 (S:Int) 9218868437227405312=((S+9218868437227405312:Nat):Int):=by
       have h1:=Ba (x:=S) (y:=9218868437227405312) (by omega) (by omega);rw [hSe,sgB_or sb (by omega),<-hSe] at h1;rw [hSe] at h1 ⊢;exact h1
     obtain ⟨z,hz⟩:∃z,z=S+9218868437227405312:=⟨_,rfl⟩;rw [<-hz] at hor;rw [hp,hr,<-hSe,<-hz];rw [<-hSe] at ha2;have f1:=fun w=>hff z w;clear hp hq hr hand hx he hff hSe hz hS hS2
     go_enter Tryz.func241,Tryz.ntmps241
     go_wp2
     go_ret2
     exact ⟨rfl,rfl⟩
   · have hp:Cu m k=(k+1) * 4503599627370496+(m - 4503599627370496):=by unfold Cu;rw [if_neg h52,if_neg hk2]
     have hr:Bd (Cu m k)=.nilIface:=by
       rw [hp];unfold Bd;rw [if_neg];have:(k+1) * 4503599627370496<=2046 * 4503599627370496:=Nat.mul_le_mul_right _ (by omega);omega
     have hlt:¬(972:Int)<=e:=by omega
     obtain ⟨t,ht⟩:∃t,t=sgB sb+(m - 4503599627370496):=⟨_,rfl⟩;have hcl:=bits_clear52 (t:=t) (by omega) (by omega);have hxt:t+4503599627370496=x:=by omega
     rw [hxt] at hcl;obtain ⟨j,hj⟩:∃j,j=k+1:=⟨_,rfl⟩;have hje:(1075:Int)+e=(j:Int):=by omega
     have hj9:(j:Int)<=2046:=by omega
     obtain ⟨y,hy⟩:∃y,y=j * 4503599627370496:=⟨_,rfl⟩;have hy9:y<9223372036854775808:=by
       have:j * 4503599627370496<=2046 * 4503599627370496:=Nat.mul_le_mul_right _ (by omega);omega
     have hyi:(j:Int) * 4503599627370496=(y:Int):=by rw [hy];simp
     have hor:bits .or .u64 (t:Int) (y:Int)=((sgB sb+Cu m k:Nat):Int):=by
       have h1:=Ba (x:=t) (y:=y) (by omega) (by omega);rw [hy,ht,or_place sb (by omega) (by omega)] at h1;rw [hy,ht,hp,<-hj];exact h1
     obtain ⟨z,hz⟩:∃z,z=sgB sb+Cu m k:=⟨_,rfl⟩;rw [<-hz] at hor;rw [hr,<-hz];have f1:=fun w=>hff z w;replace hy:=Hd hy;clear hp hq hr hand hx he hff hz hS hS2 ht hxt hj
     go_enter Tryz.func241,Tryz.ntmps241
     go_wp2
     go_ret2
     exact ⟨rfl,rfl⟩
end Go.Proofs.YtagkgfniihiinaaGreatDoor
