/- internal/strconv.special; atof64 where a quotient of whole. -/
import Derived.Test.YtagkgfniihiinaaGreatDoorReadF
import Derived.Test.YtagkgfniihiinaaGreatDoorJ19
set_option linter.all false
set_option maxHeartbeats 1600000
set_option maxRecDepth 100000
namespace Go.Proofs.YtagkgfniihiinaaGreatDoor
open Go.RowKit
theorem Cl (r:Nat) (w:World):(callFunc 211 #[.int .u64 (r:Int)]).run Tryz.prog w=.ok (.value (.float .f64 r)) w:=by kernel_rfl
theorem common_digit {s:ByteArray} {c:UInt8} {l:List UInt8} (h:s.data.toList=c :: l) (hc:isD c=true) (hs:s.size<=1000) (w:World) :
  Calls Tryz.prog 236 #[.string s,.string ⟨#[105,110,102,105,110,105,116,121]⟩] w fun e w' => e=.returned (.int .i64 0)/\w' = w:=by
 obtain ⟨hlt,hc0,_⟩:=Ag (s:=s) (k:=0) (c:=c) (l:=l) h;have hd:48<=c.toNat/\c.toNat<=57:=by simp [isD] at hc;exact hc
 have h0:(0:Int)<(s.size:Int):=by omega
 have hsz:(s.size:Int)<=1000:=by omega
 have k1:¬(65:Int)<=(c.toNat:Int):=by omega
 have k2:((c.toNat:Int) != 105)=true:=by simp;omega
 have k3:¬(c.toNat:Int)=105:=by omega
 have k4:((⟨#[105,110,102,105,110,105,116,121]⟩:ByteArray)[0]'(by decide)).toNat=105:=rfl;obtain ⟨n,hn⟩:∃n:Int,min (8:Int) (s.size:Int)=n:=⟨_,rfl⟩;have hn0:0<n:=by omega
 have hn1:n<=8:=by omega
 clear h hd hc
 go_enter Tryz.func236,Tryz.ntmps236
 go_wp2_with fail
 go_loop [6,7] (fun i b=>i=.int .i64 0) (fun _ _=>0)
 case atStart=>rfl
 case round=>
  obtain rfl:=hrel;go_wp2;go_ret;exact ⟨rfl,rfl⟩
theorem D8 {s:ByteArray} {neg:Bool} {c:UInt8} {l:List UInt8} (h:s.data.toList=(if neg then [45] else [])++c :: l) (hc:isD c=true) (hs:s.size<=1000) (w:World) :
  Calls Tryz.prog 201 #[.string s] w fun e w' => e=.returned (.tuple #[.float .f64 0,.int .i64 0,.bool false])/\w' = w:=by
 have hd:48<=c.toNat/\c.toNat<=57:=by simp [isD] at hc;exact hc
 have hsz:(s.size:Int)<=1000:=by omega
 cases neg with
 | false=>
  have h' : s.data.toList.drop 0=c :: l:=h;obtain ⟨b,m,_⟩:=Ag h';have h0:(0:Int)<(s.size:Int):=by omega
  have i:((s.size:Int) == 0)=false:=beq_eq_false_iff_ne.2 (by omega);have j:¬s=ByteArray.empty:=fun e=>by rw [Ai,e] at b;exact absurd b (by decide)
  have k1:((c.toNat:Int) == 43)=false:=by simp;omega
  have k2:((c.toNat:Int) == 45)=false:=by simp;omega
  have k3:((c.toNat:Int) == 105)=false:=by simp;omega
  have k4:((c.toNat:Int) == 73)=false:=by simp;omega
  have k5:((c.toNat:Int) == 110)=false:=by simp;omega
  have k6:((c.toNat:Int) == 78)=false:=by simp;omega
  clear h h' hd hc
  go_enter Tryz.func201,Tryz.ntmps201
  go_wp2;exact bodyPost_ret (v:=.tuple #[.float .f64 0,.int .i64 0,.bool false]) (by simp [results,Tryz.results201,go_sem]) rfl ⟨rfl,rfl⟩
 | true=>
  have h' : s.data.toList.drop 0=45 :: c :: l:=h;obtain ⟨b,m,d⟩:=Ag h';have h0:(0:Int)<(s.size:Int):=by omega
  have i:((s.size:Int) == 0)=false:=beq_eq_false_iff_ne.2 (by omega);have j:¬s=ByteArray.empty:=fun e=>by rw [Ai,e] at b;exact absurd b (by decide)
  obtain ⟨s1,hs1⟩:∃s1,s.extract 1 s.size=s1:=⟨_,rfl⟩;have a:s1.data.toList=c :: l:=by
   rw [<-hs1,ByteArray.data_extract,Array.toList_extract,List.extract_eq_take_drop];rw [Nat.zero_add] at d;rw [d];refine List.take_of_length_le ?_;have:=congrArg List.length d;rw [List.length_drop,<-Ai] at this;omega
  have f:s1.size<=1000:=by
   rw [Ai,a];have:=congrArg List.length h;rw [<-Ai] at this;simp at this ⊢;omega
  have k:=Hd (common_digit a hc f w);have h1i:(1:Int)<=(s.size:Int):=by omega
  have e45:((45:UInt8).toNat:Int)=45:=rfl;clear h h' hd hc a f d
  go_enter Tryz.func201,Tryz.ntmps201
  go_wp2_with fail
  refine k.out.mono ?_;rintro e w' ⟨rfl,g⟩;obtain rfl:=g.symm;clear g;go_wp2;exact bodyPost_ret (v:=.tuple #[.float .f64 0,.int .i64 0,.bool false]) (by simp [results,Tryz.results201,go_sem]) rfl ⟨rfl,rfl⟩
theorem atof_zero {s:ByteArray} {neg d:Bool} {L:List UInt8} {m:Nat} {x:Int} (h:FTxt s neg d L m x) (h0:Av L=0) {w:World} (hP:Par w) :
  Calls Tryz.prog 164 #[.string s] w fun e w' => e=.returned (.tuple #[.float .f64 (if neg then 9223372036854775808 else 0),.int .i64 (s.size:Int),.nilIface])/\w' = w:=by
 have b:=C7 h w;obtain ⟨⟨c,body,rest,hs,hc,_⟩,g,_⟩:=h;have f:=D8 hs hc g w;have hx:expF d L m x=0:=by unfold expF;rw [if_pos h0]
 rw [h0,hx] at b;have hopt:=hP.opt;have hb:=Cj neg;have hsz2:(s.size:Int)<=1000:=by omega
 have hf:=Cl;have o1:bits .or .u64 9223372036854775808 0=9223372036854775808:=by decide
 have o2:bits .or .u64 0 0=0:=by decide
 have f1:∀w,(callFunc 211 #[.int .u64 9223372036854775808]).run Tryz.prog w=.ok (.value (.float .f64 9223372036854775808)) w:=fun w=>Cl 9223372036854775808 w;have f2:∀w,(callFunc 211 #[.int .u64 0]).run Tryz.prog w=.ok (.value (.float .f64 0)) w:=fun w=>Cl 0 w;obtain ⟨tr,htr⟩:∃tr,tr=Bd L:=⟨_,rfl⟩;rw [<-htr] at b;replace b:=Hd b;replace f:=Hd f;replace hb:=Hd hb;clear h0 hx hs hc htr hf;cases neg
 all_goals
  go_enter Tryz.func164,Tryz.ntmps164
  go_wp2_with fail
  refine f.out.mono ?_
  rintro e w' ⟨rfl,a⟩
  obtain rfl:=a.symm
  clear a
  go_wp2_with fail
  refine b.out.mono ?_
  rintro e w' ⟨rfl,a⟩
  obtain rfl:=a.symm
  clear a
  go_wp2_with fail
  refine (hb.out _).mono ?_
  rintro e w' ⟨rfl,a⟩
  obtain rfl:=a.symm
  clear a
  go_wp2
 ·exact bodyPost_ret (v:=.tuple #[.float .f64 0,.int .i64 (s.size:Int),.nilIface]) (by simp [results,Tryz.results164,go_sem]) rfl ⟨rfl,rfl⟩
 ·exact bodyPost_ret (v:=.tuple #[.float .f64 9223372036854775808,.int .i64 (s.size:Int),.nilIface]) (by simp [results,Tryz.results164,go_sem]) rfl ⟨rfl,rfl⟩
theorem and52 {x q c:Nat} (hx:x=q * 4503599627370496+c) (hc:c<4503599627370496):x &&& 4503599627370496=q % 2 * 4503599627370496:=by
 have e:(4503599627370496:Nat)=2 ^ 52:=by decide
 have h1:(x &&& 2 ^ 52) % 2 ^ 52=0:=by rw [Nat.and_mod_two_pow,Nat.mod_self,Nat.and_zero]
 have h2:(x &&& 2 ^ 52) / 2 ^ 52=q % 2:=by
  rw [Nat.and_div_two_pow,Nat.div_self (Nat.two_pow_pos 52),Nat.and_one_is_mod];congr 1;omega
 have h3:=Nat.div_add_mod (x &&& 2 ^ 52) (2 ^ 52);rw [h1,h2] at h3;rw [e];omega
theorem bits_clear52 {t:Nat} (ht:t<18446744073709551616) (ht2:t / 4503599627370496 % 2=0):bits .andNot .u64 ((t+4503599627370496:Nat):Int) 4503599627370496=(t:Int):=by
 have hq:t=t / 4503599627370496 * 4503599627370496+t % 4503599627370496:=by omega
 have b:t+4503599627370496<18446744073709551616:=by omega
 have e:(4503599627370496:Nat)=2 ^ 52:=by decide
 have d:t+4503599627370496=t ||| 4503599627370496:=by
  have h1:(t ||| 2 ^ 52) % 2 ^ 52=t % 2 ^ 52:=by rw [Nat.or_mod_two_pow,Nat.mod_self,Nat.or_zero]
  have h2:(t ||| 2 ^ 52) / 2 ^ 52=t / 2 ^ 52+1:=by
   rw [Nat.or_div_two_pow,Nat.div_self (Nat.two_pow_pos 52),or_one];omega
  have h3:=Nat.div_add_mod (t ||| 2 ^ 52) (2 ^ 52);rw [h1,h2] at h3;rw [e];omega
 show IntKind.u64.wrap (((BitVec.ofInt 64 ((t+4503599627370496:Nat):Int)) &&& ~~~(BitVec.ofInt 64 4503599627370496)).toNat:Int)=_;have hT:BitVec.ofInt 64 ((t+4503599627370496:Nat):Int)=BitVec.ofNat 64 t ||| BitVec.ofNat 64 4503599627370496:=by
  apply BitVec.eq_of_toNat_eq;rw [Cc _ b,BitVec.toNat_or,BitVec.toNat_ofNat,BitVec.toNat_ofNat,Nat.mod_eq_of_lt (by omega),Nat.mod_eq_of_lt (by omega),d]
 have a:BitVec.ofNat 64 t &&& BitVec.ofNat 64 4503599627370496=0:=by
  apply BitVec.eq_of_toNat_eq;rw [BitVec.toNat_and,BitVec.toNat_ofNat,BitVec.toNat_ofNat,Nat.mod_eq_of_lt (by omega),Nat.mod_eq_of_lt (by omega),and52 (q:=t / 4503599627370496) (c:=t % 4503599627370496) hq (Nat.mod_lt _ (by decide)),ht2];rfl
 have hY:BitVec.ofInt 64 4503599627370496=BitVec.ofNat 64 4503599627370496:=by decide
 have f:∀A B:BitVec 64,A &&& B=0->(A ||| B) &&& ~~~B=A:=fun A B h=>by
  apply BitVec.eq_of_getLsbD_eq;intro i hi;have h9:=congrArg (fun z=>z.getLsbD i) h;simp only [BitVec.getLsbD_and,BitVec.getLsbD_zero,BitVec.getLsbD_or,BitVec.getLsbD_not,hi,decide_true,Bool.true_and] at h9 ⊢;revert h9;cases A.getLsbD i<;>cases B.getLsbD i<;>simp
 rw [hT,hY,f _ _ a,BitVec.toNat_ofNat,Nat.mod_eq_of_lt (by omega)];simp [IntKind.wrap,IntKind.bits,IntKind.signed];omega
def sgB (b:Bool):Nat:=if b then 9223372036854775808 else 0
theorem sgB_or (b:Bool) {x:Nat} (h:x<9223372036854775808):sgB b ||| x=sgB b+x:=by
 cases b
 ·show 0 ||| x=0+x;simp
 ·show 9223372036854775808 ||| x=9223372036854775808+x
  exact (Nat.two_pow_add_eq_or_of_lt (i:=63) (by omega:x<2 ^ 63) 1).symm
def Bn (r:Nat):Value:=if r=9218868437227405312 then .iface 155 (.int .i64 1) else .nilIface
theorem or_place (b:Bool) {c j:Nat} (hc:c<4503599627370496) (hj:j<2048):(sgB b+c) ||| (j * 4503599627370496)=sgB b+(j * 4503599627370496+c):=by
 have h1:j * 4503599627370496+c=j * 4503599627370496 ||| c:=by
  have:=Nat.two_pow_add_eq_or_of_lt (i:=52) (b:=c) (by omega) j;rw [Nat.mul_comm] at this;exact this
 rw [<-sgB_or b (x:=c) (by omega),<-sgB_or b (x:=j * 4503599627370496+c) (by omega),h1,Nat.or_assoc,Nat.or_comm c]
theorem pack64_any {m k:Nat} {sb:Bool} (hm:m<9007199254740992) (hk:k<=8000) (w:World) :
  Calls Tryz.prog 241 #[.int .u64 ((sgB sb+m:Nat):Int),.int .i64 ((k:Int) - 1074)] w fun e w' => e=.returned (.tuple #[.float .f64 (sgB sb+C5 m k),Bn (C5 m k)])/\w' = w:=by
 have hS:sgB sb<=9223372036854775808:=by unfold sgB;split<;>omega
 have d:sgB sb=0\/sgB sb=9223372036854775808:=by unfold sgB;cases sb<;>simp
 have b:=Cl;obtain ⟨x,hx⟩:∃x,x=sgB sb+m:=⟨_,rfl⟩;have h:x<18446744073709551616:=by omega
 obtain ⟨e,he⟩:∃e:Int,e=(k:Int) - 1074:=⟨_,rfl⟩;have he9:-1074<=e/\e<=8000:=by omega
 have a:bits .and .u64 (x:Int) 4503599627370496=((x / 4503599627370496 % 2 * 4503599627370496:Nat):Int):=by
  have:=Cb (x:=x) (y:=4503599627370496) h (by omega);rw [and52 (q:=x / 4503599627370496) (c:=x % 4503599627370496) (by omega) (Nat.mod_lt _ (by decide))] at this;exact this
 rw [<-hx,<-he];by_cases h52:m<4503599627370496
 ·have hp:C5 m k=m:=by unfold C5;rw [if_pos h52]
  have hq:x / 4503599627370496 % 2=0:=by omega
  rw [hq,Nat.zero_mul] at a;have f : bits .and .u64 (x:Int) 4503599627370496=0:=a;have hr:Bn m=.nilIface:=by unfold Bn;rw [if_neg (by omega)]
  rw [hp,hr,<-hx];have f1:=fun w=>b x w;clear hp hq hr a hx he b
  go_enter Tryz.func241,Tryz.ntmps241
  go_wp2
  go_ret2
  exact ⟨rfl,rfl⟩
 ·have hq:x / 4503599627370496 % 2=1:=by omega
  rw [hq,Nat.one_mul] at a;have f : bits .and .u64 (x:Int) 4503599627370496=4503599627370496:=a;by_cases hk2:2046<=k
  ·have hp:C5 m k=9218868437227405312:=by unfold C5;rw [if_neg h52,if_pos hk2]
   have hr:Bn 9218868437227405312=.iface 155 (.int .i64 1):=if_pos rfl;have hge:(972:Int)<=e:=by omega
   have l:bits .and .u64 (x:Int) 9223372036854775808=((sgB sb:Nat):Int):=by
    have h1:=Cb (x:=x) (y:=9223372036854775808) h (by omega);have h2:x &&& 9223372036854775808=sgB sb:=by
     have e1:(9223372036854775808:Nat)=2 ^ 63:=by decide
     have h3:(x &&& 2 ^ 63) % 2 ^ 63=0:=by rw [Nat.and_mod_two_pow,Nat.mod_self,Nat.and_zero]
     have h4:(x &&& 2 ^ 63) / 2 ^ 63=x / 2 ^ 63 % 2:=by rw [Nat.and_div_two_pow,Nat.div_self (Nat.two_pow_pos 63),Nat.and_one_is_mod]
     have h5:=Nat.div_add_mod (x &&& 2 ^ 63) (2 ^ 63);rw [h3,h4] at h5;rw [e1];rcases d with h6 | h6<;>omega
    rw [h2] at h1;exact h1
   obtain ⟨S,hSe⟩:∃S,S=sgB sb:=⟨_,rfl⟩;have g:bits .or .u64 (S:Int) 9218868437227405312=((S+9218868437227405312:Nat):Int):=by
    have h1:=Bj (x:=S) (y:=9218868437227405312) (by omega) (by omega);rw [hSe,sgB_or sb (by omega),<-hSe] at h1;rw [hSe] at h1 ⊢;exact h1
   obtain ⟨z,hz⟩:∃z,z=S+9218868437227405312:=⟨_,rfl⟩;rw [<-hz] at g;rw [hp,hr,<-hSe,<-hz];rw [<-hSe] at l;have f1:=fun w=>b z w;clear hp hq hr a hx he b hSe hz hS d
   go_enter Tryz.func241,Tryz.ntmps241
   go_wp2
   go_ret2
   exact ⟨rfl,rfl⟩
  ·have hp:C5 m k=(k+1) * 4503599627370496+(m - 4503599627370496):=by unfold C5;rw [if_neg h52,if_neg hk2]
   have hr:Bn (C5 m k)=.nilIface:=by
    rw [hp];unfold Bn;rw [if_neg];have:(k+1) * 4503599627370496<=2046 * 4503599627370496:=Nat.mul_le_mul_right _ (by omega);omega
   have hlt:¬(972:Int)<=e:=by omega
   obtain ⟨t,ht⟩:∃t,t=sgB sb+(m - 4503599627370496):=⟨_,rfl⟩;have n:=bits_clear52 (t:=t) (by omega) (by omega);have i:t+4503599627370496=x:=by omega
   rw [i] at n;obtain ⟨j,hj⟩:∃j,j=k+1:=⟨_,rfl⟩;have hje:(1075:Int)+e=(j:Int):=by omega
   have hj9:(j:Int)<=2046:=by omega
   obtain ⟨y,hy⟩:∃y,y=j * 4503599627370496:=⟨_,rfl⟩;have hy9:y<9223372036854775808:=by
    have:j * 4503599627370496<=2046 * 4503599627370496:=Nat.mul_le_mul_right _ (by omega);omega
   have hyi:(j:Int) * 4503599627370496=(y:Int):=by rw [hy];simp
   have g:bits .or .u64 (t:Int) (y:Int)=((sgB sb+C5 m k:Nat):Int):=by
    have h1:=Bj (x:=t) (y:=y) (by omega) (by omega);rw [hy,ht,or_place sb (by omega) (by omega)] at h1;rw [hy,ht,hp,<-hj];exact h1
   obtain ⟨z,hz⟩:∃z,z=sgB sb+C5 m k:=⟨_,rfl⟩;rw [<-hz] at g;rw [hr,<-hz];have f1:=fun w=>b z w;replace hy:=Hd hy;clear hp hq hr a hx he b hz hS d ht i hj
   go_enter Tryz.func241,Tryz.ntmps241
   go_wp2
   go_ret2
   exact ⟨rfl,rfl⟩
