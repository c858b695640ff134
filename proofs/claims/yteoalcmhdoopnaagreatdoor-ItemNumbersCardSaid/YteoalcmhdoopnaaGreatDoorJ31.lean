/- internal/strconv.pack64: its walk. -/
import Derived.Test.YteoalcmhdoopnaaGreatDoorJ30
namespace Go.Proofs.YteoalcmhdoopnaaGreatDoor
open Go.RowKit
theorem and52 {x q c:Nat} (hx:x=q * 4503599627370496+c) (hc:c<4503599627370496):x &&& 4503599627370496=q % 2 * 4503599627370496:=by
 have e:(4503599627370496:Nat)=2 ^ 52:=by decide
 have h1:(x &&& 2 ^ 52) % 2 ^ 52=0:=by rw [Nat.and_mod_two_pow,Nat.mod_self,Nat.and_zero]
 have h2:(x &&& 2 ^ 52) / 2 ^ 52=q % 2:=by
   rw [Nat.and_div_two_pow,Nat.div_self (Nat.two_pow_pos 52),Nat.and_one_is_mod];congr 1;omega
 have h3:=Nat.div_add_mod (x &&& 2 ^ 52) (2 ^ 52);rw [h1,h2] at h3;rw [e];omega
theorem bits_clear52 {t:Nat} (ht:t<18446744073709551616) (ht2:t / 4503599627370496 % 2=0):bits .andNot .u64 ((t+4503599627370496:Nat):Int) 4503599627370496=(t:Int):=by
 have hq:t=t / 4503599627370496 * 4503599627370496+t % 4503599627370496:=by omega
 have ht3:t+4503599627370496<18446744073709551616:=by omega
 have e:(4503599627370496:Nat)=2 ^ 52:=by decide
 have hor:t+4503599627370496=t ||| 4503599627370496:=by
   have h1:(t ||| 2 ^ 52) % 2 ^ 52=t % 2 ^ 52:=by rw [Nat.or_mod_two_pow,Nat.mod_self,Nat.or_zero]
   have h2:(t ||| 2 ^ 52) / 2 ^ 52=t / 2 ^ 52+1:=by
     rw [Nat.or_div_two_pow,Nat.div_self (Nat.two_pow_pos 52),or_one];omega
   have h3:=Nat.div_add_mod (t ||| 2 ^ 52) (2 ^ 52);rw [h1,h2] at h3;rw [e];omega
 show IntKind.u64.wrap (((BitVec.ofInt 64 ((t+4503599627370496:Nat):Int)) &&& ~~~(BitVec.ofInt 64 4503599627370496)).toNat:Int)=_;have hT:BitVec.ofInt 64 ((t+4503599627370496:Nat):Int)=BitVec.ofNat 64 t ||| BitVec.ofNat 64 4503599627370496:=by
   apply BitVec.eq_of_toNat_eq;rw [Bc _ ht3,BitVec.toNat_or,BitVec.toNat_ofNat,BitVec.toNat_ofNat,Nat.mod_eq_of_lt (by omega),Nat.mod_eq_of_lt (by omega),hor]
 have hand:BitVec.ofNat 64 t &&& BitVec.ofNat 64 4503599627370496=0:=by
   apply BitVec.eq_of_toNat_eq;rw [BitVec.toNat_and,BitVec.toNat_ofNat,BitVec.toNat_ofNat,Nat.mod_eq_of_lt (by omega),Nat.mod_eq_of_lt (by omega),and52 (q:=t / 4503599627370496) (c:=t % 4503599627370496) hq (Nat.mod_lt _ (by decide)),ht2];rfl
 have hY:BitVec.ofInt 64 4503599627370496=BitVec.ofNat 64 4503599627370496:=by decide
 have hcl:∀A B:BitVec 64,A &&& B=0->(A ||| B) &&& ~~~B=A:=fun A B h=>by
   apply BitVec.eq_of_getLsbD_eq;intro i hi;have h9:=congrArg (fun z=>z.getLsbD i) h;simp only [BitVec.getLsbD_and,BitVec.getLsbD_zero,BitVec.getLsbD_or,BitVec.getLsbD_not,hi,decide_true,Bool.true_and] at h9 ⊢;revert h9;cases A.getLsbD i<;>cases B.getLsbD i<;>simp
 rw [hT,hY,hcl _ _ hand,BitVec.toNat_ofNat,Nat.mod_eq_of_lt (by omega)];simp [IntKind.wrap,IntKind.bits,IntKind.signed];omega
def sgB (b:Bool):Nat:=if b then 9223372036854775808 else 0
theorem sgB_or (b:Bool) {x:Nat} (h:x<9223372036854775808):sgB b ||| x=sgB b+x:=by
 cases b
 · show 0 ||| x=0+x;simp
 · show 9223372036854775808 ||| x=9223372036854775808+x
   exact (Nat.two_pow_add_eq_or_of_lt (i:=63) (by omega:x<2 ^ 63) 1).symm
def A4 (r:Nat):Value:=if r=9218868437227405312 then .iface 106 (.int .i64 1) else .nilIface
theorem or_place (b:Bool) {c j:Nat} (hc:c<4503599627370496) (hj:j<2048):(sgB b+c) ||| (j * 4503599627370496)=sgB b+(j * 4503599627370496+c):=by
 have h1:j * 4503599627370496+c=j * 4503599627370496 ||| c:=by
   have:=Nat.two_pow_add_eq_or_of_lt (i:=52) (b:=c) (by omega) j;rw [Nat.mul_comm] at this;exact this
 rw [<-sgB_or b (x:=c) (by omega),<-sgB_or b (x:=j * 4503599627370496+c) (by omega),h1,Nat.or_assoc,Nat.or_comm c]
set_option maxRecDepth 100000 in
theorem pack64_any {m k:Nat} {sb:Bool} (hm:m<9007199254740992) (hk:k<=8000) (w:World) :
   Calls Tryz.prog 153 #[.int .u64 ((sgB sb+m:Nat):Int),.int .i64 ((k:Int) - 1074)] w fun e w' => e=.returned (.tuple #[.float .f64 (sgB sb+Ce m k),A4 (Ce m k)])/\w' = w:=by
 have hS:sgB sb<=9223372036854775808:=by unfold sgB;split<;>omega
 have hS2:sgB sb=0\/sgB sb=9223372036854775808:=by unfold sgB;cases sb<;>simp
 have hff:=B0
 obtain ⟨x,hx⟩:∃x,x=sgB sb+m:=⟨_,rfl⟩
 have hx9:x<18446744073709551616:=by omega
 obtain ⟨e,he⟩:∃e:Int,e=(k:Int) - 1074:=⟨_,rfl⟩
 have he9:-1074<=e/\e<=8000:=by omega
 have hand:bits .and .u64 (x:Int) 4503599627370496=((x / 4503599627370496 % 2 * 4503599627370496:Nat):Int):=by
   have:=A7 (x:=x) (y:=4503599627370496) hx9 (by omega);rw [and52 (q:=x / 4503599627370496) (c:=x % 4503599627370496) (by omega) (Nat.mod_lt _ (by decide))] at this;exact this
 rw [<-hx,<-he]
 by_cases h52:m<4503599627370496
 · have hp:Ce m k=m:=by unfold Ce;rw [if_pos h52]
   have hq:x / 4503599627370496 % 2=0:=by omega
   rw [hq,Nat.zero_mul] at hand;have hand' : bits .and .u64 (x:Int) 4503599627370496=0:=hand;have hr:A4 m=.nilIface:=by unfold A4;rw [if_neg (by omega)]
   rw [hp,hr,<-hx];have f1:=fun w=>hff x w;clear hp hq hr hand hx he hff
   go_enter Tryz.func153,Tryz.ntmps153
   go_wp2
   go_ret2
   exact ⟨rfl,rfl⟩
 · have hq:x / 4503599627370496 % 2=1:=by omega
   rw [hq,Nat.one_mul] at hand;have hand' : bits .and .u64 (x:Int) 4503599627370496=4503599627370496:=hand;by_cases hk2:2046<=k
   · have hp:Ce m k=9218868437227405312:=by unfold Ce;rw [if_neg h52,if_pos hk2]
     have hr:A4 9218868437227405312=.iface 106 (.int .i64 1):=if_pos rfl;have hge:(972:Int)<=e:=by omega
     have ha2:bits .and .u64 (x:Int) 9223372036854775808=((sgB sb:Nat):Int):=by
       have h1:=A7 (x:=x) (y:=9223372036854775808) hx9 (by omega);have h2:x &&& 9223372036854775808=sgB sb:=by
         have e1:(9223372036854775808:Nat)=2 ^ 63:=by decide
         have h3:(x &&& 2 ^ 63) % 2 ^ 63=0:=by rw [Nat.and_mod_two_pow,Nat.mod_self,Nat.and_zero]
         have h4:(x &&& 2 ^ 63) / 2 ^ 63=x / 2 ^ 63 % 2:=by rw [Nat.and_div_two_pow,Nat.div_self (Nat.two_pow_pos 63),Nat.and_one_is_mod]
         have h5:=Nat.div_add_mod (x &&& 2 ^ 63) (2 ^ 63);rw [h3,h4] at h5;rw [e1];rcases hS2 with h6 | h6<;>omega
       rw [h2] at h1;exact h1
     obtain ⟨S,hSe⟩:∃S,S=sgB sb:=⟨_,rfl⟩;have hor:bits .or .u64 (S:Int) 9218868437227405312=((S+9218868437227405312:Nat):Int):=by
       have h1:=Aw (x:=S) (y:=9218868437227405312) (by omega) (by omega);rw [hSe,sgB_or sb (by omega),<-hSe] at h1;rw [hSe] at h1 ⊢;exact h1
     obtain ⟨z,hz⟩:∃z,z=S+9218868437227405312:=⟨_,rfl⟩;rw [<-hz] at hor;rw [hp,hr,<-hSe,<-hz];rw [<-hSe] at ha2;have f1:=fun w=>hff z w;clear hp hq hr hand hx he hff hSe hz hS hS2
     go_enter Tryz.func153,Tryz.ntmps153
     go_wp2
     go_ret2
     exact ⟨rfl,rfl⟩
   · have hp:Ce m k=(k+1) * 4503599627370496+(m - 4503599627370496):=by unfold Ce;rw [if_neg h52,if_neg hk2]
     have hr:A4 (Ce m k)=.nilIface:=by
       rw [hp];unfold A4;rw [if_neg];have:(k+1) * 4503599627370496<=2046 * 4503599627370496:=Nat.mul_le_mul_right _ (by omega);omega
     have hlt:¬(972:Int)<=e:=by omega
     obtain ⟨t,ht⟩:∃t,t=sgB sb+(m - 4503599627370496):=⟨_,rfl⟩;have hcl:=bits_clear52 (t:=t) (by omega) (by omega);have hxt:t+4503599627370496=x:=by omega
     rw [hxt] at hcl;obtain ⟨j,hj⟩:∃j,j=k+1:=⟨_,rfl⟩;have hje:(1075:Int)+e=(j:Int):=by omega
     have hj9:(j:Int)<=2046:=by omega
     obtain ⟨y,hy⟩:∃y,y=j * 4503599627370496:=⟨_,rfl⟩;have hy9:y<9223372036854775808:=by
       have:j * 4503599627370496<=2046 * 4503599627370496:=Nat.mul_le_mul_right _ (by omega);omega
     have hyi:(j:Int) * 4503599627370496=(y:Int):=by rw [hy];simp
     have hor:bits .or .u64 (t:Int) (y:Int)=((sgB sb+Ce m k:Nat):Int):=by
       have h1:=Aw (x:=t) (y:=y) (by omega) (by omega);rw [hy,ht,or_place sb (by omega) (by omega)] at h1;rw [hy,ht,hp,<-hj];exact h1
     obtain ⟨z,hz⟩:∃z,z=sgB sb+Ce m k:=⟨_,rfl⟩;rw [<-hz] at hor;rw [hr,<-hz];have f1:=fun w=>hff z w;replace hy:=Hd hy;clear hp hq hr hand hx he hff hz hS hS2 ht hxt hj
     go_enter Tryz.func153,Tryz.ntmps153
     go_wp2
     go_ret2
     exact ⟨rfl,rfl⟩
end Go.Proofs.YteoalcmhdoopnaaGreatDoor
namespace Go.Proofs.YteoalcmhdoopnaaGreatDoor
theorem C0 {p q:Int} (p0:-400<=p) (q0:-400<=q):(∃a:Nat,tT p=10 ^ a * tT q/\p - q=(a:Int))\/∃a:Nat,1<=a/\tT q=10 ^ a * tT p/\q - p=(a:Int):=by
 rcases Int.lt_or_le p q with h | h
 · obtain ⟨a,rfl⟩:∃a:Nat,q=p+a:=⟨(q - p).toNat,by omega⟩
   exact .inr ⟨a,by omega,tT_add p0 a,by omega⟩
 · obtain ⟨a,rfl⟩:∃a:Nat,p=q+a:=⟨(p - q).toNat,by omega⟩
   exact .inl ⟨a,tT_add q0 a,by omega⟩
theorem short_d0 {r:Nat} (h:0<r) (hr:r<9218868437227405312) (hs:Be r=false) :
   (fMin r<=fMax r / 10 * 10/\(Ae r).1=fMax r / 10/\(Ae r).2=1 - fP r)\/(¬fMin r<=fMax r / 10 * 10/\fMin r<=(Ae r).1/\(Ae r).1<=fMax r/\(Ae r).2=-fP r):=by
 obtain ⟨n0,n1⟩:=near_in h hr hs
 unfold Ae
 by_cases h1:fMin r<=fMax r / 10 * 10
 · rw [if_pos h1];exact .inl ⟨h1,rfl,rfl⟩
 · rw [if_neg h1]
   by_cases h2:fMin r<fMax r
   · rw [if_pos h2];exact .inr ⟨h1,n0,n1,rfl⟩
   · rw [if_neg h2];exact .inr ⟨h1,Nat.le_refl _,Nat.le_trans n0 n1,rfl⟩
theorem few_no {r s k N d:Nat} {q:Int} (h13:13<=r) (hr:r<9218868437227405312) (hs:Be r=false) (hl:Least (fMin r) (fMax r) (Ae r).1 s k N) (hq:-400<=q) (hd0:0<d) (hrd:Cx r d q=true):10 ^ (N - 1)<=d:=by
 have h:0<r:=by omega
 have hU:=units_of h13 hr hs;have hps:=Ci h hr;have hin:InS (vT r) (gT r) (r % 2=0) (d * tT q):=(F4 h hs _).2 (Ei.1 hrd);have hd:(fMin r<=fMax r / 10 * 10/\(Ae r).1=fMax r / 10)\/(¬fMin r<=fMax r / 10 * 10/\fMin r<=(Ae r).1/\(Ae r).1<=fMax r):=by
   rcases short_d0 h hr hs with ⟨a,b,_⟩ | ⟨a,b,c,_⟩
   · exact .inl ⟨a,b⟩
   · exact .inr ⟨a,b,c⟩
 rcases C0 (p:=-fP r) (q:=q) (by omega) hq with ⟨a,e,_⟩ | ⟨a,ha,e,_⟩
 · exact least_min (a:=a) hU hl hd (.inl ⟨e,Ed _⟩) hin hd0
 · exact least_min (a:=a) hU hl hd (.inr ⟨ha,e⟩) hin hd0
theorem d0_near {r:Nat} (h:0<r) (hr:r<9218868437227405312):2 * vT r<=(2 * rndU (usc r (xM r))+1) * tT (-fP r)/\2 * rndU (usc r (xM r)) * tT (-fP r)<=2 * vT r+tT (-fP r) /\
   (2 * vT r=(2 * rndU (usc r (xM r))+1) * tT (-fP r)\/2 * rndU (usc r (xM r)) * tT (-fP r)=2 * vT r+tT (-fP r)->rndU (usc r (xM r)) % 2=0):=by
 obtain ⟨_,⟨m0,m1,m9⟩,_⟩:=Fn h
 obtain ⟨s0,s1,s2,_,_⟩:=Bf h
 obtain ⟨p0,p1,p2,p3⟩:=Ci h hr
 rw [Fm h hr m0 m1 m9]
 obtain ⟨sc,hsc⟩:∃n:Nat,fSc r=n:=⟨(fSc r).toNat,by omega⟩
 rw [hsc,Int.toNat_natCast]
 have hR:=rel_T (x:=xM r) (μ:=2 * rv r) (k:=rK r) (s:=fS r) (sc:=sc) (p:=fP r) (by omega) (by omega) (by omega) (by
   rw [Cd,xM,show fS r=fS r - 1+1 by omega,Nat.pow_succ,show fS r - 1+1 - 1=fS r - 1 by omega];simp only [Nat.mul_assoc,Nat.mul_left_comm,Nat.mul_comm]) (by rw [<-hsc];rfl)
 exact rnd_near (Nat.mul_pos (Nat.mul_pos (Cm _) (by decide)) (Nat.two_pow_pos sc)) (Ed _) hR
theorem many17 {r:Nat} (h:0<r) (hr:r<9218868437227405312) (hs:Be r=false):InS (vT r) (gT r) (r % 2=0) ((fixN r 17).1 * tT (fixN r 17).2):=by
 obtain ⟨⟨f1,f2,f3,f4,_,f6⟩,q0,q1⟩:=D9 h hr (n:=17) (by decide) (by decide);have hM:=(A9 r).2.2;have hV:vT r=2 * (rM r * gT r):=by unfold vT gT;rw [Cd];simp only [Nat.mul_assoc]
 have hg:0<gT r:=Nat.mul_pos (Nat.two_pow_pos _) (Nat.pow_pos (by decide));generalize (fixN r 17).1=d at *;generalize tT ((fixN r 17).2 - 1)=tm at *;have ht:=Ed (fixN r 17).2;generalize tT (fixN r 17).2=t at *;clear f6;have e1:(2 * d+1) * t=2 * (d * t)+t:=by rw [Nat.add_mul,Nat.one_mul,Nat.mul_assoc]
 have e2:2 * d * t=2 * (d * t):=Nat.mul_assoc _ _ _;rw [e1] at f3;rw [e2] at f4;have f1' : 10000000000000000<=d:=f1;have h1:10000000000000000 * t<=d * t:=Nat.mul_le_mul_right _ f1';have h2:rM r * gT r<=9007199254740991 * gT r:=Nat.mul_le_mul_right _ (by omega);generalize rM r * gT r=a at *;generalize d * t=x at *;generalize gT r=g at *;generalize vT r=v at *;unfold InS;constructor<;>left<;>omega
theorem least_of {r:Nat} (h13:13<=r) (hr:r<9218868437227405312) (hs:Be r=false) :
   ∃s k N,Least (fMin r) (fMax r) (Ae r).1 s k N:=by
 have h:0<r:=by omega
 have hU:=units_of h13 hr hs
 have hb:=hU.big
 have hpos:0<(Ae r).1:=by
   rcases short_d0 h hr hs with ⟨a,b,_⟩ | ⟨a,b,c,_⟩
   · rw [b];omega
   · omega
 obtain ⟨s,k,e,l⟩:∃s k:Nat,(Ae r).1=s * 10 ^ k/\s % 10≠0:=by
   generalize (Ae r).1=d at hpos;clear hb hU;induction d using Nat.strongRecOn with
   | _ d ih=>
     by_cases h9:d % 10=0
     · obtain ⟨s,k,e,l⟩:=ih (d / 10) (by omega) (by omega)
       exact ⟨s,k+1,by rw [Nat.pow_succ,<-Nat.mul_assoc,<-e];omega,l⟩
     · exact ⟨d,0,by simp,h9⟩
 obtain ⟨N,hN⟩:∃N:Nat,10 ^ N<=s/\s<10 ^ (N+1):=by
   have hs0:0<s:=by omega
   clear e l;induction s using Nat.strongRecOn with
   | _ s ih=>
     by_cases h9:s<10
     · exact ⟨0,by simp;omega,by simpa using h9⟩
     · obtain ⟨N,a,b⟩:=ih (s / 10) (by omega) (by omega)
       refine ⟨N+1,?_,?_⟩
       · rw [Nat.pow_succ];omega
       · rw [Nat.pow_succ];omega
 exact ⟨s,k,N+1,e,l,hN.1,hN.2,by omega⟩
theorem tT_pred {q:Int} (h:-399<=q):tT q=10 * tT (q - 1):=by
 have:=tT_succ (q:=q - 1) (by omega);rwa [show q - 1+1=q by omega] at this
theorem ten_gap {a x y:Nat} (ha:1<=a) (hy:0<y) (e:x=10 ^ a * y):y<x:=by
 have h10:1<10 ^ a:=Nat.one_lt_pow (by omega) (by decide);rw [e];exact (Nat.lt_mul_iff_one_lt_left hy).2 h10
theorem ten_down {b x y z:Nat} (e:x=10 ^ (b+1) * y) (hx:x=10 * z):z=10 ^ b * y:=by
 rw [hx,Nat.pow_succ,Nat.mul_comm (10 ^ b) 10,Nat.mul_assoc] at e;exact Nat.eq_of_mul_eq_mul_left (by decide) e
theorem hit_core {V g F0 F1 s k N:Nat} {ev:Prop} {P:Int} {S X:Nat × Int} (hU:Units V g (tT P) F0 F1 ev) (hl:Least F0 F1 S.1 s k N) (hg:0<g) (hP:-350<=P)
   (hf:Fix N X.1 V (tT X.2) (tT (X.2 - 1))) (q0:-380<=X.2) (hin0:InS V g ev (S.1 * tT S.2))
   (hd:(F0<=F1 / 10 * 10/\S.1=F1 / 10/\S.2=P+1)\/(¬F0<=F1 / 10 * 10/\F0<=S.1/\S.1<=F1/\S.2=P/\(F0=F1\/(2 * V<=(2 * S.1+1) * tT P/\2 * S.1 * tT P<=2 * V+tT P/\(2 * V=(2 * S.1+1) * tT P\/2 * S.1 * tT P=2 * V+tT P->S.1 % 2=0))))) :
   InS V g ev (X.1 * tT X.2)/\X.1=s/\X.2=S.2+k:=by
 obtain ⟨S1,S2⟩:=S
 obtain ⟨X1,X2⟩:=X
 dsimp only at *
 have hp0:-400<=S2:=by rcases hd with ⟨_,_,c⟩ | ⟨_,_,_,c,_⟩<;>omega
 have hin1:InS V g ev (s * tT (S2+k)):=by
   rw [tT_add hp0 k,<-Nat.mul_assoc,<-hl.eq];exact hin0
 have htm:tT X2=10 * tT (X2 - 1):=tT_pred (by omega)
 have hin:InS V g ev (X1 * tT X2):=by
   rcases C0 (p:=S2+k) (q:=X2) (by omega) (by omega) with ⟨a,e,_⟩ | ⟨a,ha,e,_⟩
   · exact near_inS (a:=a) hg hl.pos hf hl.high hin1 htm (.inl e)
   · obtain ⟨b,rfl⟩:∃b,a=b+1:=⟨a - 1,by omega⟩
     exact near_inS (a:=b) hg hl.pos hf hl.high hin1 htm (.inr (ten_down e htm))
 have hd2:(F0<=F1 / 10 * 10/\S1=F1 / 10)\/(¬F0<=F1 / 10 * 10/\F0<=S1/\S1<=F1/\(F0=F1\/(2 * V<=(2 * S1+1) * tT P/\2 * S1 * tT P<=2 * V+tT P/\(2 * V=(2 * S1+1) * tT P\/2 * S1 * tT P=2 * V+tT P->S1 % 2=0)))):=by
   rcases hd with ⟨a,b,_⟩ | ⟨a,b,c,_,d⟩
   · exact .inl ⟨a,b⟩
   · exact .inr ⟨a,b,c,d⟩
 refine ⟨hin,?_⟩
 have hq0:=Ed X2
 rcases C0 (p:=P) (q:=X2) (by omega) (by omega) with ⟨a,e,ea⟩ | ⟨a,ha,e,ea⟩
 · obtain ⟨e1,h2⟩:=least_hit (a:=a) hU hl hf hq0 hin hd2 (.inl e)
   refine ⟨e1,?_⟩;rcases h2 with ⟨_,ha,e2,_⟩ | ⟨hA,_,ha,hk⟩
   · exfalso
     exact Nat.lt_asymm (ten_gap ha (Ed P) e2) (ten_gap ha hq0 e)
   · rcases hd with ⟨hA', _⟩ | ⟨_,_,_,c,_⟩
     · exact absurd hA' hA
     · omega
 · obtain ⟨e1,h2⟩:=least_hit (a:=a) hU hl hf hq0 hin hd2 (.inr ⟨ha,e⟩)
   refine ⟨e1,?_⟩;rcases h2 with ⟨hA,_,_,hk⟩ | ⟨_,_,h0,_⟩
   · rcases hd with ⟨_,_,c⟩ | ⟨hA', _⟩
     · omega
     · exact absurd hA hA'
   · omega
theorem short_way {r:Nat} (h:0<r) (hr:r<9218868437227405312) (hs:Be r=false) :
   (fMin r<=fMax r / 10 * 10/\(Ae r).1=fMax r / 10/\(Ae r).2=-fP r+1)\/(¬fMin r<=fMax r / 10 * 10/\fMin r<=(Ae r).1/\(Ae r).1<=fMax r/\(Ae r).2=-fP r/\(fMin r=fMax r\/(2 * vT r<=(2 * (Ae r).1+1) * tT (-fP r)/\2 * (Ae r).1 * tT (-fP r)<=2 * vT r+tT (-fP r) /\
     (2 * vT r=(2 * (Ae r).1+1) * tT (-fP r)\/2 * (Ae r).1 * tT (-fP r)=2 * vT r+tT (-fP r)->(Ae r).1 % 2=0)))):=by
 obtain ⟨n0,n1⟩:=near_in h hr hs
 have hn:=d0_near h hr
 unfold Ae
 by_cases h1:fMin r<=fMax r / 10 * 10
 · rw [if_pos h1];exact .inl ⟨h1,rfl,by dsimp only;generalize fP r=p;omega⟩
 · rw [if_neg h1]
   by_cases h2:fMin r<fMax r
   · rw [if_pos h2];exact .inr ⟨h1,n0,n1,rfl,.inr hn⟩
   · rw [if_neg h2];exact .inr ⟨h1,Nat.le_refl _,Nat.le_trans n0 n1,rfl,.inl (Nat.le_antisymm (Nat.le_trans n0 n1) (Nat.not_lt.1 h2))⟩
theorem hit {r s k N:Nat} (h13:13<=r) (hr:r<9218868437227405312) (hs:Be r=false) (hl:Least (fMin r) (fMax r) (Ae r).1 s k N) (h17:N<=17) :
   Cx r (fixN r N).1 (fixN r N).2=true/\(fixN r N).1=s/\(fixN r N).2=(Ae r).2+k:=by
 have h:0<r:=Nat.lt_of_lt_of_le (by decide) h13
 have hP:-400<=-fP r+1/\-400<=-fP r/\-350<=-fP r:=by
   have hps:=Ci h hr;generalize fP r=p at *;omega
 have hw:=short_way h hr hs
 have hp0:-400<=(Ae r).2:=by
   rcases hw with ⟨_,_,c⟩ | ⟨_,_,_,c,_⟩
   · rw [c];exact hP.1
   · rw [c];exact hP.2.1
 obtain ⟨a,b⟩:=hit_core (units_of h13 hr hs) hl (Nat.mul_pos (Nat.two_pow_pos _) (Nat.pow_pos (by decide))) hP.2.2 (D9 h hr hl.pos h17).1 (D9 h hr hl.pos h17).2.1
   ((F4 h hs _).2 ((dec_T hp0).1 (short_ok h hr))) hw
 exact ⟨Ei.2 ((F4 h hs _).1 a),b⟩
theorem E9 {n d:Nat} {q:Int} {up:Bool} (hn:1<=n) (h0:10 ^ (n - 1)<=d) (h1:d<10 ^ n) :
   10 ^ (n - 1)<=(Af n d q up).1/\(Af n d q up).1<10 ^ n/\q - 1<=(Af n d q up).2/\(Af n d q up).2<=q+1:=by
 have h2:(10:Nat) ^ n=10 * 10 ^ (n - 1):=by
   obtain ⟨k,rfl⟩:∃k,n=k+1:=⟨n - 1,by omega⟩;rw [Nat.pow_succ,Nat.mul_comm];simp
 have h3:0<(10:Nat) ^ (n - 1):=Nat.pow_pos (by decide)
 unfold Af
 rw [h2] at h1 ⊢
 generalize (10:Nat) ^ (n - 1)=P at *
 split<;>split<;>simp only []<;>omega
theorem seek_least {r s k N:Nat} (h13:13<=r) (hr:r<9218868437227405312) (hs:Be r=false) (hl:Least (fMin r) (fMax r) (Ae r).1 s k N) (h17:N<=17) :
   ∀fuel n,1<=n->n<=N->N<n+fuel->Bb r fuel n=(N,fixN r N)
 | 0,n,_,h1,h2=>by omega
 | fuel+1,n,h0,h1,h2=>by
   rcases Nat.eq_or_lt_of_le h1 with e | hlt
   · subst e
     unfold Bb;rw [if_pos (hit h13 hr hs hl h17).1]
   · obtain ⟨hf,q0,q1⟩:=D9 (by omega) hr h0 (show n<=17 by omega)
     have hP:(10:Nat) ^ n<=10 ^ (N - 1):=Nat.pow_le_pow_right (by decide) (by omega);have hPp:0<(10:Nat) ^ (n - 1):=Nat.pow_pos (by decide);have no:∀{d:Nat} {q:Int},10 ^ (n - 1)<=d->d<10 ^ n->-400<=q->¬Cx r d q=true:=fun a b c hrd=>by
       have:=few_no h13 hr hs hl c (by omega) hrd;omega
     obtain ⟨b0,b1,b2,b3⟩:=E9 (q:=(fixN r n).2) (up:=decide ((fixN r n).1 * tT (fixN r n).2<vT r)) h0 hf.low hf.high;unfold Bb;rw [if_neg (no hf.low hf.high (by omega)),if_neg (no b0 b1 (by omega))];exact seek_least h13 hr hs hl h17 fuel (n+1) (by omega) hlt (by omega)
theorem ends_all {r:Nat} (h:0<r) (hr:r<9218868437227405312):endsB r=true:=by
 rcases Nat.lt_or_ge r 1000 with h0 | h0
 · have:=Bu ends_few r h0
   rw [decide_eq_false (by omega),Bool.false_or] at this;exact this
 cases hs:Be r
 · obtain ⟨s,k,N,hl⟩:=least_of (by omega) hr hs
   have h17:N<=17:=by
     have hm:=many17 h hr hs;obtain ⟨hf,q0,q1⟩:=D9 h hr (n:=17) (by decide) (by decide);have:=few_no (d:=(fixN r 17).1) (q:=(fixN r 17).2) (by omega) hr hs hl (by omega) (by have:=hf.low;omega) (Ei.2 ((F4 h hs _).1 hm));have h2:(10:Nat) ^ (N - 1)<10 ^ 17:=Nat.lt_of_le_of_lt this hf.high;have:=(Nat.pow_lt_pow_iff_right (a:=10) (by decide)).1 h2;omega
   have e:=seek_least (by omega) hr hs hl h17 17 1 (by decide) hl.pos (by omega);obtain ⟨_,e1,e2⟩:=hit (by omega) hr hs hl h17;unfold endsB;rw [e];simp only [Bool.and_eq_true,decide_eq_true_eq];refine ⟨⟨⟨⟨⟨?_,?_⟩,?_⟩,?_⟩,?_⟩,?_⟩
   · rw [e1,e2,show ((Ae r).2+(k:Int) - (Ae r).2).toNat=k by omega];exact hl.eq
   · rw [e2];omega
   · rw [e1];exact hl.last
   · rw [e1];exact hl.low
   · rw [e1];exact hl.high
   · exact hl.pos
 · simp only [Be,Bool.and_eq_true,decide_eq_true_eq] at hs
   have hsp:=A9 r;have hk:=Fh hr;have:=Bu ends_skew (rK r) hk;rw [decide_eq_false (by omega),Bool.false_or] at this;rw [hsp.1,hs.1,show rK r * 4503599627370496+4503599627370496=(rK r+1) * 4503599627370496 by omega];exact this
end Go.Proofs.YteoalcmhdoopnaaGreatDoor
