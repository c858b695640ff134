/- internal/strconv.pack64: its walk. -/
import Derived.Test.YtagkgfniihiinaaGreatDoorJ24
import Derived.Laws.FloatArith
namespace Go.Proofs.YtagkgfniihiinaaGreatDoor
open Go.RowKit
theorem and52 {x q c : Nat} (hx : x = q * 4503599627370496 + c) (hc : c < 4503599627370496) : x &&& 4503599627370496 = q % 2 * 4503599627370496:=by
 have e : (4503599627370496 : Nat) = 2 ^ 52:=by decide
 have h1 : (x &&& 2 ^ 52) % 2 ^ 52 = 0:=by rw [Nat.and_mod_two_pow,Nat.mod_self,Nat.and_zero]
 have h2 : (x &&& 2 ^ 52) / 2 ^ 52 = q % 2:=by
   rw [Nat.and_div_two_pow,Nat.div_self (Nat.two_pow_pos 52),Nat.and_one_is_mod];congr 1; omega
 have h3:=Nat.div_add_mod (x &&& 2 ^ 52) (2 ^ 52);rw [h1,h2] at h3;rw [e]; omega
theorem bits_clear52 {t : Nat} (ht : t < 18446744073709551616) (ht2 : t / 4503599627370496 % 2 = 0) : bits .andNot .u64 ((t + 4503599627370496 : Nat) : Int) 4503599627370496 = (t : Int):=by
 have hq : t = t / 4503599627370496 * 4503599627370496 + t % 4503599627370496:=by omega
 have ht3 : t + 4503599627370496 < 18446744073709551616:=by omega
 have e : (4503599627370496 : Nat) = 2 ^ 52:=by decide
 have hor : t + 4503599627370496 = t ||| 4503599627370496:=by
   have h1 : (t ||| 2 ^ 52) % 2 ^ 52 = t % 2 ^ 52:=by rw [Nat.or_mod_two_pow,Nat.mod_self,Nat.or_zero]
   have h2 : (t ||| 2 ^ 52) / 2 ^ 52 = t / 2 ^ 52 + 1:=by
     rw [Nat.or_div_two_pow,Nat.div_self (Nat.two_pow_pos 52),or_one]; omega
   have h3:=Nat.div_add_mod (t ||| 2 ^ 52) (2 ^ 52);rw [h1,h2] at h3;rw [e]; omega
 show IntKind.u64.wrap (((BitVec.ofInt 64 ((t + 4503599627370496 : Nat) : Int)) &&& ~~~(BitVec.ofInt 64 4503599627370496)).toNat : Int) = _;have hT : BitVec.ofInt 64 ((t + 4503599627370496 : Nat) : Int) = BitVec.ofNat 64 t ||| BitVec.ofNat 64 4503599627370496:=by
   apply BitVec.eq_of_toNat_eq;rw [B2 _ ht3,BitVec.toNat_or,BitVec.toNat_ofNat,BitVec.toNat_ofNat,Nat.mod_eq_of_lt (by omega),Nat.mod_eq_of_lt (by omega),hor]
 have hand : BitVec.ofNat 64 t &&& BitVec.ofNat 64 4503599627370496 = 0:=by
   apply BitVec.eq_of_toNat_eq;rw [BitVec.toNat_and,BitVec.toNat_ofNat,BitVec.toNat_ofNat,Nat.mod_eq_of_lt (by omega),Nat.mod_eq_of_lt (by omega),and52 (q:=t / 4503599627370496) (c:=t % 4503599627370496) hq (Nat.mod_lt _ (by decide)),ht2];rfl
 have hY : BitVec.ofInt 64 4503599627370496 = BitVec.ofNat 64 4503599627370496:=by decide
 have hcl : ∀ A B : BitVec 64,A &&& B = 0 -> (A ||| B) &&& ~~~B = A:=fun A B h => by
   apply BitVec.eq_of_getLsbD_eq;intro i hi;have h9:=congrArg (fun z => z.getLsbD i) h;simp only [BitVec.getLsbD_and,BitVec.getLsbD_zero,BitVec.getLsbD_or,BitVec.getLsbD_not,hi,decide_true,Bool.true_and] at h9 ⊢;revert h9;cases A.getLsbD i <;> cases B.getLsbD i <;> simp
 rw [hT,hY,hcl _ _ hand,BitVec.toNat_ofNat,Nat.mod_eq_of_lt (by omega)];simp [IntKind.wrap,IntKind.bits,IntKind.signed];omega
def sgB (b : Bool) : Nat:=if b then 9223372036854775808 else 0
theorem sgB_or (b : Bool) {x : Nat} (h : x < 9223372036854775808) : sgB b ||| x = sgB b + x:=by
 cases b
 · show 0 ||| x = 0 + x; simp
 · show 9223372036854775808 ||| x = 9223372036854775808 + x
   exact (Nat.two_pow_add_eq_or_of_lt (i:=63) (by omega : x < 2 ^ 63) 1).symm
def Cd (r : Nat) : Value:=if r = 9218868437227405312 then .iface 155 (.int .i64 1) else .nilIface
theorem or_place (b : Bool) {c j : Nat} (hc : c < 4503599627370496) (hj : j < 2048) : (sgB b + c) ||| (j * 4503599627370496) = sgB b + (j * 4503599627370496 + c):=by
 have h1 : j * 4503599627370496 + c = j * 4503599627370496 ||| c:=by
   have:=Nat.two_pow_add_eq_or_of_lt (i:=52) (b:=c) (by omega) j;rw [Nat.mul_comm] at this;exact this
 rw [<- sgB_or b (x:=c) (by omega),<- sgB_or b (x:=j * 4503599627370496 + c) (by omega),h1,Nat.or_assoc,Nat.or_comm c]
set_option maxRecDepth 100000 in
theorem pack64_any {m k : Nat} {sb : Bool} (hm : m < 9007199254740992) (hk : k <= 8000) (w : World) :
   Calls Tryz.prog 241 #[.int .u64 ((sgB sb + m : Nat) : Int),.int .i64 ((k : Int) - 1074)] w fun e w' => e = .returned (.tuple #[.float .f64 (sgB sb + Cv m k),Cd (Cv m k)]) /\ w' = w:=by
 have hS : sgB sb <= 9223372036854775808:=by unfold sgB; split <;> omega
 have hS2 : sgB sb = 0 \/ sgB sb = 9223372036854775808:=by unfold sgB; cases sb <;> simp
 have hff:=ffrom_run
 obtain ⟨x,hx⟩ : ∃ x,x = sgB sb + m:=⟨_,rfl⟩
 have hx9 : x < 18446744073709551616:=by omega
 obtain ⟨e,he⟩ : ∃ e : Int,e = (k : Int) - 1074:=⟨_,rfl⟩
 have he9 : -1074 <= e /\ e <= 8000:=by omega
 have hand : bits .and .u64 (x : Int) 4503599627370496 = ((x / 4503599627370496 % 2 * 4503599627370496 : Nat) : Int):=by
   have:=Cb (x:=x) (y:=4503599627370496) hx9 (by omega);rw [and52 (q:=x / 4503599627370496) (c:=x % 4503599627370496) (by omega) (Nat.mod_lt _ (by decide))] at this;exact this
 rw [<- hx,<- he]
 by_cases h52 : m < 4503599627370496
 · have hp : Cv m k = m:=by unfold Cv; rw [if_pos h52]
   have hq : x / 4503599627370496 % 2 = 0:=by omega
   rw [hq,Nat.zero_mul] at hand;have hand' : bits .and .u64 (x : Int) 4503599627370496 = 0:=hand;have hr : Cd m = .nilIface:=by unfold Cd; rw [if_neg (by omega)]
   rw [hp,hr,<- hx];have f1:=fun w => hff x w;clear hp hq hr hand hx he hff
   go_enter Tryz.func241,Tryz.ntmps241
   go_wp2
   go_ret2
   exact ⟨rfl,rfl⟩
 · have hq : x / 4503599627370496 % 2 = 1:=by omega
   rw [hq,Nat.one_mul] at hand;have hand' : bits .and .u64 (x : Int) 4503599627370496 = 4503599627370496:=hand;by_cases hk2 : 2046 <= k
   · have hp : Cv m k = 9218868437227405312:=by unfold Cv; rw [if_neg h52,if_pos hk2]
     have hr : Cd 9218868437227405312 = .iface 155 (.int .i64 1):=if_pos rfl;have hge : (972 : Int) <= e:=by omega
     have ha2 : bits .and .u64 (x : Int) 9223372036854775808 = ((sgB sb : Nat) : Int):=by
       have h1:=Cb (x:=x) (y:=9223372036854775808) hx9 (by omega);have h2 : x &&& 9223372036854775808 = sgB sb:=by
         have e1 : (9223372036854775808 : Nat) = 2 ^ 63:=by decide
         have h3 : (x &&& 2 ^ 63) % 2 ^ 63 = 0:=by rw [Nat.and_mod_two_pow,Nat.mod_self,Nat.and_zero]
         have h4 : (x &&& 2 ^ 63) / 2 ^ 63 = x / 2 ^ 63 % 2:=by rw [Nat.and_div_two_pow,Nat.div_self (Nat.two_pow_pos 63),Nat.and_one_is_mod]
         have h5:=Nat.div_add_mod (x &&& 2 ^ 63) (2 ^ 63);rw [h3,h4] at h5;rw [e1];rcases hS2 with h6 | h6 <;> omega
       rw [h2] at h1; exact h1
     obtain ⟨S,hSe⟩ : ∃ S,S = sgB sb:=⟨_,rfl⟩;have hor : bits .or .u64 (S : Int) 9218868437227405312 = ((S + 9218868437227405312 : Nat) : Int):=by
       have h1:=Bg (x:=S) (y:=9218868437227405312) (by omega) (by omega);rw [hSe,sgB_or sb (by omega),<- hSe] at h1;rw [hSe] at h1 ⊢; exact h1
     obtain ⟨z,hz⟩ : ∃ z,z = S + 9218868437227405312:=⟨_,rfl⟩;rw [<- hz] at hor;rw [hp,hr,<- hSe,<- hz];rw [<- hSe] at ha2;have f1:=fun w => hff z w;clear hp hq hr hand hx he hff hSe hz hS hS2
     go_enter Tryz.func241,Tryz.ntmps241
     go_wp2
     go_ret2
     exact ⟨rfl,rfl⟩
   · have hp : Cv m k = (k + 1) * 4503599627370496 + (m - 4503599627370496):=by unfold Cv; rw [if_neg h52,if_neg hk2]
     have hr : Cd (Cv m k) = .nilIface:=by
       rw [hp]; unfold Cd;rw [if_neg];have : (k + 1) * 4503599627370496 <= 2046 * 4503599627370496:=Nat.mul_le_mul_right _ (by omega);omega
     have hlt : ¬ (972 : Int) <= e:=by omega
     obtain ⟨t,ht⟩ : ∃ t,t = sgB sb + (m - 4503599627370496):=⟨_,rfl⟩;have hcl:=bits_clear52 (t:=t) (by omega) (by omega);have hxt : t + 4503599627370496 = x:=by omega
     rw [hxt] at hcl;obtain ⟨j,hj⟩ : ∃ j,j = k + 1:=⟨_,rfl⟩;have hje : (1075 : Int) + e = (j : Int):=by omega
     have hj9 : (j : Int) <= 2046:=by omega
     obtain ⟨y,hy⟩ : ∃ y,y = j * 4503599627370496:=⟨_,rfl⟩;have hy9 : y < 9223372036854775808:=by
       have : j * 4503599627370496 <= 2046 * 4503599627370496:=Nat.mul_le_mul_right _ (by omega);omega
     have hyi : (j : Int) * 4503599627370496 = (y : Int):=by rw [hy]; simp
     have hor : bits .or .u64 (t : Int) (y : Int) = ((sgB sb + Cv m k : Nat) : Int):=by
       have h1:=Bg (x:=t) (y:=y) (by omega) (by omega);rw [hy,ht,or_place sb (by omega) (by omega)] at h1;rw [hy,ht,hp,<- hj]; exact h1
     obtain ⟨z,hz⟩ : ∃ z,z = sgB sb + Cv m k:=⟨_,rfl⟩;rw [<- hz] at hor;rw [hr,<- hz];have f1:=fun w => hff z w;replace hy:=Hd hy;clear hp hq hr hand hx he hff hz hS hS2 ht hxt hj
     go_enter Tryz.func241,Tryz.ntmps241
     go_wp2
     go_ret2
     exact ⟨rfl,rfl⟩
end Go.Proofs.YtagkgfniihiinaaGreatDoor
namespace Go.Proofs.YtagkgfniihiinaaGreatDoor
open Ieee Go
theorem two_pw (d c e : Nat) (h : e = c + 1) : 2 * (d * 2 ^ c) = d * 2 ^ e:=by rw [h,Nat.pow_succ,Nat.mul_comm (2 ^ c),Nat.mul_left_comm]
theorem mul_tp {a : Nat} (c : Nat) (h : 0 < a) : 0 < a * 2 ^ c:=Nat.mul_pos h (Nat.two_pow_pos c)
theorem rv_ne {n c : Nat} (hn : 0 < n) (h : rv 0 = n * 2 ^ c) : False:=by
 have h0 : rv 0 = 0:=rfl;have h1:=Nat.mul_pos hn (Nat.two_pow_pos c);omega
theorem word_is (neg : Bool) (x : Nat) : Ieee.double.word neg x = (if neg then 9223372036854775808 else 0) + x:=by
 unfold Ieee.Format.word;rw [Ef];cases neg <;> simp
theorem write_num (neg : Bool) (m : Nat) (p : Int) : Ieee.double.write (.number neg m p) = Ieee.double.nearest neg m p:=rfl
theorem flt_rung {d : Nat} (h0 : 0 < d) (h1 : d < 9007199254740992) : ∃ R,floatOfInt .f64 (d : Int) = R /\ rv R = d * 2 ^ 1074 /\ R < 9218868437227405312 /\ 0 < R:=by
 obtain ⟨R,hR,hR9⟩:=rung_whole h0 h1;have e : floatOfInt .f64 (d : Int) = Ieee.double.nearest false d 0:=by
   show Ieee.double.write (.number (decide ((d : Int) < 0)) (d : Int).natAbs 0) = _;rw [decide_eq_false (by omega),Int.natAbs_natCast,write_num]
 obtain ⟨r,h2,h3⟩:=Ff false h0 0;have h4 : InI R (2 * rv R) 1:=InI.self;have h5 : InI r (2 * rv R) 1:=by
   rw [show (0 + 1075 : Int).toNat = 1075 by rfl,show (-(0 + 1075 : Int)).toNat = 0 by rfl,Nat.pow_zero] at h3;have : 2 * rv R = d * 2 ^ 1075:=by rw [hR]; exact two_pw d 1074 1075 rfl
   rw [this]; exact h3
 have h6:=h5.uniq (by decide) h4;refine ⟨R,?_,hR,hR9,?_⟩
 · rw [e,h2,h6,Nat.min_eq_left (Nat.le_of_lt hR9),word_is]; simp
 · rcases Nat.eq_zero_or_pos R with h | h
   · rw [h] at hR
     exact (rv_ne h0 hR).elim
   · exact h
theorem mul_rung {n1 : Bool} {R z : Nat} (hR : R < 9218868437227405312) (hR0 : 0 < R) (hz : z < 9218868437227405312) (hz0 : 0 < z) :
   ∃ r,Ieee.double.mul ((if n1 then 9223372036854775808 else 0) + R) z = some ((if n1 then 9223372036854775808 else 0) + min r 9218868437227405312) /\ InI r (rv R * rv z) (2 ^ 1073):=by
 obtain ⟨m1,p1,h1,q1,e1⟩:=Cs (n:=(if n1 then 9223372036854775808 else 0) + R) (by split <;> omega)
 obtain ⟨m2,p2,h2,q2,e2⟩:=Cs (n:=z) (by omega)
 have g1 : negF ((if n1 then 9223372036854775808 else 0) + R) = n1:=by unfold negF; cases n1 <;> simp <;> omega
 have g2 : negF z = false:=by unfold negF; simp; omega
 have k1 : ((if n1 then 9223372036854775808 else 0) + R) % 9223372036854775808 = R:=by split <;> omega
 have k2 : z % 9223372036854775808 = z:=by omega
 rw [k1] at e1
 rw [k2] at e2
 rw [g1] at h1
 rw [g2] at h2
 have hm1 : 0 < m1:=by
   rcases Nat.eq_zero_or_pos m1 with h | h
   · rw [h,Nat.zero_mul] at e1
     have:=Fo.1 e1.symm;omega
   · exact h
 have hm2 : 0 < m2:=by
   rcases Nat.eq_zero_or_pos m2 with h | h
   · rw [h,Nat.zero_mul] at e2
     have:=Fo.1 e2.symm;omega
   · exact h
 obtain ⟨r,h3,h4⟩:=Ff n1 (Nat.mul_pos hm1 hm2) (p1 + p2)
 refine ⟨r,?_,?_⟩
 · unfold Ieee.Format.mul
   rw [h1,h2];show some (Ieee.double.write (.number (n1 ^^ false) (m1 * m2) (p1 + p2))) = _;rw [write_num,Bool.xor_false,h3,word_is]
 · obtain ⟨c73,hc⟩ : ∃ c : Nat,c = 1073:=⟨_,rfl⟩
   rw [<- hc];refine (InI.cross (Nat.two_pow_pos _) (Nat.two_pow_pos _) ?_).1 h4;rw [<- e1,<- e2];have hp : (2 : Nat) ^ (p1 + 1074).toNat * 2 ^ (p2 + 1074).toNat * 2 ^ (-(p1 + p2 + 1075)).toNat = 2 ^ (p1 + p2 + 1075).toNat * 2 ^ c73:=by
     rw [<- Nat.pow_add,<- Nat.pow_add,<- Nat.pow_add]; congr 1; omega
   have : m1 * 2 ^ (p1 + 1074).toNat * (m2 * 2 ^ (p2 + 1074).toNat) * 2 ^ (-(p1 + p2 + 1075)).toNat = m1 * m2 * (2 ^ (p1 + 1074).toNat * 2 ^ (p2 + 1074).toNat * 2 ^ (-(p1 + p2 + 1075)).toNat):=by
     simp only [Nat.mul_assoc,Nat.mul_left_comm]
   rw [this,hp];simp only [Nat.mul_assoc]
theorem quo_top {m n : Nat} (hm : 0 < m) (hn : 0 < n) : 9007199254740992 <= m * 2 ^ (54 + n.log2 - m.log2) / n:=by
 rw [Nat.le_div_iff_mul_le hn];have h1 : 2 ^ m.log2 <= m:=Nat.log2_self_le (by omega);have h2 : n < 2 ^ (n.log2 + 1):=Nat.lt_log2_self;have h3 : 2 ^ m.log2 * 2 ^ (54 + n.log2 - m.log2) <= m * 2 ^ (54 + n.log2 - m.log2):=Nat.mul_le_mul_right _ h1;rw [<- Nat.pow_add] at h3;have h4 : (2 : Nat) ^ (54 + n.log2) <= 2 ^ (m.log2 + (54 + n.log2 - m.log2)):=Nat.pow_le_pow_right (by decide) (by omega);have h5 : (2 : Nat) ^ (54 + n.log2) = 9007199254740992 * 2 ^ (n.log2 + 1):=by
   rw [show (9007199254740992 : Nat) = 2 ^ 53 by decide,<- Nat.pow_add]; congr 1; omega
 have h6 : 9007199254740992 * n <= 9007199254740992 * 2 ^ (n.log2 + 1):=Nat.mul_le_mul_left _ (Nat.le_of_lt h2);exact Nat.le_trans h6 (Nat.le_trans (Nat.le_of_eq h5.symm) (Nat.le_trans h4 h3))
theorem quo_rung {n1 : Bool} {R z : Nat} (hR : R < 9218868437227405312) (hR0 : 0 < R) (hz : z < 9218868437227405312) (hz0 : 0 < z) :
   ∃ r,Ieee.double.div ((if n1 then 9223372036854775808 else 0) + R) z = some ((if n1 then 9223372036854775808 else 0) + min r 9218868437227405312) /\ InI r (rv R * 2 ^ 1075) (rv z):=by
 obtain ⟨m1,p1,h1,q1,e1⟩:=Cs (n:=(if n1 then 9223372036854775808 else 0) + R) (by split <;> omega)
 obtain ⟨m2,p2,h2,q2,e2⟩:=Cs (n:=z) (by omega)
 have g1 : negF ((if n1 then 9223372036854775808 else 0) + R) = n1:=by unfold negF; cases n1 <;> simp <;> omega
 have g2 : negF z = false:=by unfold negF; simp; omega
 have k1 : ((if n1 then 9223372036854775808 else 0) + R) % 9223372036854775808 = R:=by split <;> omega
 have k2 : z % 9223372036854775808 = z:=by omega
 rw [k1] at e1
 rw [k2] at e2
 rw [g1] at h1
 rw [g2] at h2
 have hm1 : 0 < m1:=by
   rcases Nat.eq_zero_or_pos m1 with h | h
   · rw [h,Nat.zero_mul] at e1
     have:=Fo.1 e1.symm;omega
   · exact h
 have hm2 : 0 < m2:=by
   rcases Nat.eq_zero_or_pos m2 with h | h
   · rw [h,Nat.zero_mul] at e2
     have:=Fo.1 e2.symm;omega
   · exact h
 have hq:=quo_top hm1 hm2
 obtain ⟨mo,hmo⟩ : ∃ mo,mo = 54 + m2.log2 - m1.log2:=⟨_,rfl⟩
 rw [<- hmo] at hq
 obtain ⟨X,hX⟩ : ∃ X,X = m1 * 2 ^ mo:=⟨_,rfl⟩
 rw [<- hX] at hq
 obtain ⟨P,hP⟩ : ∃ P : Int,P = p1 - p2 - mo - 1:=⟨_,rfl⟩
 have hst : (X % m2 != 0).toNat = (decide (X ≠ X / m2 * m2)).toNat:=by
   have h9:=Nat.div_add_mod X m2;rw [Nat.mul_comm] at h9;congr 1;by_cases h : X % m2 = 0
   · have h8 : X = X / m2 * m2:=by omega
     rw [show (X % m2 != 0) = false by simp [h],decide_eq_false (fun hne => hne h8)]
   · have h8 : X ≠ X / m2 * m2:=by omega
     rw [show (X % m2 != 0) = true by simp [h],decide_eq_true h8]
 have hmag : 0 < 2 * (X / m2) + (X % m2 != 0).toNat:=by omega
 obtain ⟨r,h3,h4⟩:=Ff n1 hmag P
 refine ⟨r,?_,?_⟩
 · unfold Ieee.Format.div
   rw [h1,h2];unfold Ieee.Datum.quotient;simp only [Nat.pos_iff_ne_zero.1 hm2,if_false,Bool.xor_false,show Ieee.double.fractionBits + 2 = 54 from rfl,<- hmo,Nat.shiftLeft_eq,<- hX,<- hP];show some (Ieee.double.write _) = _;rw [write_num,h3,word_is]
 · rw [hst] at h4
   have h5:=sticky_inI (p:=P + 1075) hm2 hq (by have:=Nat.div_mul_le_self X m2; exact this) (by
     have h9:=Nat.div_add_mod X m2;have h8:=Nat.mod_lt X hm2;rw [Nat.add_mul,Nat.one_mul,Nat.mul_comm (X / m2)]; omega) h4
   have hz9 : 0 < rv z:=by rw [<- e2]; exact Nat.mul_pos hm2 (Nat.two_pow_pos _)
   refine (InI.cross (Nat.mul_pos hm2 (Nat.two_pow_pos _)) hz9 ?_).1 h5;rw [<- e1,<- e2,hX];obtain ⟨c75,hc⟩ : ∃ c : Nat,c = 1075:=⟨_,rfl⟩;rw [<- hc];have hp : 2 * 2 ^ mo * 2 ^ (P + 1075).toNat * 2 ^ (p2 + 1074).toNat = 2 ^ (p1 + 1074).toNat * 2 ^ c75 * 2 ^ (-(P + 1075)).toNat:=by
     rw [<- Nat.pow_succ',<- Nat.pow_add,<- Nat.pow_add,<- Nat.pow_add,<- Nat.pow_add]; congr 1; omega
   have e3 : 2 * (m1 * 2 ^ mo) * 2 ^ (P + 1075).toNat * (m2 * 2 ^ (p2 + 1074).toNat) = m1 * m2 * (2 * 2 ^ mo * 2 ^ (P + 1075).toNat * 2 ^ (p2 + 1074).toNat):=by
     simp only [Nat.mul_assoc,Nat.mul_left_comm]
   rw [e3,hp];simp only [Nat.mul_assoc,Nat.mul_left_comm]
end Go.Proofs.YtagkgfniihiinaaGreatDoor
