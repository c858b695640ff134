/- internal/strconv.prescale and the small ones beside it. -/
import Derived.Test.YtagkgfniihiinaaGreatDoorUscW
import Derived.Test.YtagkgfniihiinaaGreatDoorJ55
import Derived.Test.YtagkgfniihiinaaGreatDoorJ81
namespace Go.Proofs.YtagkgfniihiinaaGreatDoor
open Go.RowKit
def Pows (w:World):Prop:=∀p:Int,-348<=p->p<=347->w.cell? ⟨8,(p+348).toNat * 2,none⟩=some (.int .u64 (hiT p:Int))/\w.cell? ⟨8,(p+348).toNat * 2+1,none⟩=some (.int .u64 (loT p:Int))
theorem Pows.lt {w:World} (h:Pows w):8<w.heap.size:=World.block_lt_of_cell? _ _ (h 0 (by decide) (by decide)).1
theorem Pows.fr {S:Nat->Prop} {w w' : World} (h:Pows w) (hf:Fr S w w') (hS:¬S 8):Pows w' := fun p h0 h1=>⟨hf.cell (h p h0 h1).1 hS,hf.cell (h p h0 h1).2 hS⟩
theorem Pows.below {B:Nat} {w w' : World} (h:Pows w) (hb:Below B w w') (hB:8<B):Pows w' := h.fr (Fr.of_below hb) (Nat.not_le_of_lt hB)
theorem log2P_any (x:Int) (h0:-1000<=x) (h1:x<=1000) (w:World):Calls Tryz.prog 173 #[.int .i64 x] w fun e w' => e=.returned (.int .i64 (lp10 x))/\w' = w:=by
 go_enter Tryz.func173,Tryz.ntmps173
 go_wp2;go_ret;exact ⟨rfl,rfl⟩
theorem log10P_any (x:Int) (h0:-3000<=x) (h1:x<=3000) (w:World):Calls Tryz.prog 144 #[.int .i64 x] w fun e w' => e=.returned (.int .i64 (B8 x))/\w' = w:=by
 go_enter Tryz.func144,Tryz.ntmps144
 go_wp2;go_ret;exact ⟨rfl,rfl⟩
theorem skewed_any (x:Int) (h0:-3000<=x) (h1:x<=3000) (w:World):Calls Tryz.prog 171 #[.int .i64 x] w fun e w' => e=.returned (.int .i64 (skewF x))/\w' = w:=by
 go_enter Tryz.func171,Tryz.ntmps171
 go_wp2;go_ret;exact ⟨rfl,rfl⟩
theorem ceil_any (u:Nat) (h:u<18446744073709551000) (w:World):Calls Tryz.prog 176 #[.int .u64 (u:Int)] w fun e w' => e=.returned (.int .u64 (((u+3) / 4:Nat):Int))/\w' = w:=by
 go_enter Tryz.func176,Tryz.ntmps176
 go_wp2;go_ret;exact ⟨rfl,rfl⟩
theorem floor_any (u:Nat) (h:u<18446744073709551000) (w:World):Calls Tryz.prog 177 #[.int .u64 (u:Int)] w fun e w' => e=.returned (.int .u64 ((u / 4:Nat):Int))/\w' = w:=by
 go_enter Tryz.func177,Tryz.ntmps177
 go_wp2;go_ret;exact ⟨by simp,rfl⟩
theorem round_any (u:Nat) (h:u<18446744073709551000) (w:World):Calls Tryz.prog 178 #[.int .u64 (u:Int)] w fun e w' => e=.returned (.int .u64 ((rndU u:Nat):Int))/\w' = w:=by
 obtain ⟨q,hq⟩:∃q,q=u / 4:=⟨_,rfl⟩;have hd:((u:Int)) / 4=(q:Int):=by omega
 obtain ⟨m,hm⟩:∃m,m=q % 2:=⟨_,rfl⟩;have hand:bits .and .u64 (q:Int) 1=(m:Int):=by
   have:=Ck (x:=q) (y:=1) (by omega) (by omega);rw [and_1,<-hm] at this;exact this
 have hr:((u:Int)+1+(m:Int)) / 4=((rndU u:Nat):Int):=by unfold rndU;omega
 have hm2:m<=1:=by omega
 generalize rndU u=r at *;clear hq hm
 go_enter Tryz.func178,Tryz.ntmps178
 go_wp2;go_ret;exact ⟨rfl,rfl⟩
theorem hi_lt {p:Int} (h0:-348<=p) (h1:p<=347):9223372036854775808<=hiT p/\hiT p<18446744073709551616:=by
 obtain ⟨_,hh⟩:=at10 hi_ok Fw h0 h1;rw [hiOk,Bool.and_eq_true,decide_eq_true_eq,decide_eq_true_eq] at hh;exact hh
set_option maxRecDepth 100000 in
set_option maxHeartbeats 1600000 in
theorem Cm {w:World} {b:Nat} {e p l:Int} {c0 c1 c2:Value} (hb:Blk w b) (h0:w.cell? ⟨b,0,none⟩=some c0) (h1:w.cell? ⟨b,1,none⟩=some c1) (h2:w.cell? ⟨b,2,none⟩=some c2) (hP:Pows w)
   (hbg:b≠8) (p0:-348<=p) (p1:p<=347) (e0:-3000<=e) (e1:e<=3000) (l0:-3000<=l) (l1:l<=3000) :
   Calls Tryz.prog 172 #[.pointer (some ⟨b,0,none⟩),.int .i64 e,.int .i64 p,.int .i64 l] w fun x w' => x=.returned (.tuple #[]) /\
     w' = ((w.setCell ⟨b,0,none⟩ (.int .u64 (hiT p:Int))).setCell ⟨b,1,none⟩ (.int .u64 (loT p:Int))).setCell ⟨b,2,none⟩ (.int .i64 (-(e+l+3))):=by
 obtain ⟨t0,t1⟩:=hP p p0 p1
 have g0:=(hi_lt p0 p1).2
 have g1:=lo_lt p
 generalize hiT p=H at *
 generalize loT p=L at *
 obtain ⟨q,hq⟩:∃q:Nat,q=(p+348).toNat:=⟨_,rfl⟩
 rw [<-hq] at t0 t1
 have hqe:p+348=(q:Int):=by omega
 have hq6:q<696:=by omega
 have z0:=hb.frz 0 none
 have z1:=hb.frz 1 none
 have z2:=hb.frz 2 none
 have hbg' : ¬(8=b):=fun h=>hbg h.symm
 clear hP hb hq
 go_enter Tryz.func172,Tryz.ntmps172
 go_wp2
 go_end0
 exact ⟨rfl,rfl⟩
end Go.Proofs.YtagkgfniihiinaaGreatDoor
namespace Go.Proofs.YtagkgfniihiinaaGreatDoor
open Ieee
theorem cut_spec (neg:Bool) (n drop:Nat):2 * Toward.even.cut neg n drop * 2 ^ drop<=2 * n+2 ^ drop/\2 * n<=(2 * Toward.even.cut neg n drop+1) * 2 ^ drop /\
   (2 * Toward.even.cut neg n drop * 2 ^ drop=2 * n+2 ^ drop\/2 * n=(2 * Toward.even.cut neg n drop+1) * 2 ^ drop->Toward.even.cut neg n drop % 2=0):=by
 unfold Toward.cut
 simp only [Nat.shiftLeft_eq,Nat.one_mul]
 by_cases h:drop<=n.log2+2
 · rw [Nat.min_eq_left h]
   have hp:=Nat.two_pow_pos drop;generalize 2 ^ drop=G at *;have hd:=Nat.div_add_mod n G;have hm:=Nat.mod_lt n hp;obtain ⟨q,hq⟩:∃q,q=n / G:=⟨_,rfl⟩;obtain ⟨r,hr⟩:∃r,r=n % G:=⟨_,rfl⟩;rw [<-hq,<-hr];rw [<-hq,<-hr] at hd;rw [<-hr] at hm;have hqG:G * q=q * G:=Nat.mul_comm _ _;have e1:2 * q * G=2 * (q * G):=Nat.mul_assoc _ _ _;have e2:(2 * q+1) * G=2 * (q * G)+G:=by rw [Nat.add_mul,Nat.one_mul,e1]
   have e3:2 * (q+1) * G=2 * (q * G)+2 * G:=by rw [Nat.mul_add,Nat.add_mul,e1]
   have e4:(2 * (q+1)+1) * G=2 * (q * G)+3 * G:=by rw [Nat.add_mul,Nat.one_mul,e3];omega
   by_cases h1:G<2 * r
   · have:(decide (G<2 * r) || (G == 2 * r && q % 2 == 1))=true:=by simp [h1]
     rw [this];show 2 * (q+1) * G<=_/\_<=(2 * (q+1)+1) * G/\(2 * (q+1) * G=_\/_=(2 * (q+1)+1) * G->(q+1) % 2=0);rw [e3,e4];omega
   · by_cases h2:G=2 * r/\q % 2=1
     · have:(decide (G<2 * r) || (G == 2 * r && q % 2 == 1))=true:=by simp [h2.1,h2.2]
       rw [this];show 2 * (q+1) * G<=_/\_<=(2 * (q+1)+1) * G/\(2 * (q+1) * G=_\/_=(2 * (q+1)+1) * G->(q+1) % 2=0);rw [e3,e4];omega
     · have:(decide (G<2 * r) || (G == 2 * r && q % 2 == 1))=false:=by
         rw [Bool.or_eq_false_iff,Bool.and_eq_false_iff,decide_eq_false_iff_not];refine ⟨h1,?_⟩;by_cases h3:G=2 * r
         · right
           have:¬q % 2=1:=fun h4=>h2 ⟨h3,h4⟩;simpa using this
         · left;simpa using h3
       rw [this];show 2 * (q+0) * G<=_/\_<=(2 * (q+0)+1) * G/\(2 * (q+0) * G=_\/_=(2 * (q+0)+1) * G->(q+0) % 2=0);rw [Nat.add_zero,e1,e2];omega
 · rw [Nat.min_eq_right (by omega)]
   have hn:n<2 ^ (n.log2+1):=Nat.lt_log2_self;have e0:2 ^ (n.log2+2)=2 * 2 ^ (n.log2+1):=Nat.pow_succ';have hle:2 ^ (n.log2+2)<=2 ^ drop:=Nat.pow_le_pow_right (by decide) (by omega);have hd:n / 2 ^ (n.log2+2)=0:=Nat.div_eq_of_lt (by omega);have hm:n % 2 ^ (n.log2+2)=n:=Nat.mod_eq_of_lt (by omega);rw [hd,hm];have:(decide (2 ^ (n.log2+2)<2 * n) || (2 ^ (n.log2+2) == 2 * n && 0 % 2 == 1))=false:=by
     rw [Bool.or_eq_false_iff,Bool.and_eq_false_iff,decide_eq_false_iff_not];exact ⟨by omega,.inr rfl⟩
   rw [this];show 2 * (0+0) * 2 ^ drop<=_/\_<=(2 * (0+0)+1) * 2 ^ drop/\(2 * (0+0) * 2 ^ drop=_\/_=(2 * (0+0)+1) * 2 ^ drop->(0+0) % 2=0);simp only [Nat.add_zero,Nat.mul_zero,Nat.zero_mul,Nat.zero_add,Nat.one_mul];omega
theorem nearest_inI (neg:Bool) {mag:Nat} (hm:0<mag) (Dv:Int) :
   ∃r,Ieee.double.nearest neg mag Dv=Ieee.double.word neg (min r 9218868437227405312)/\InI r (mag * 2 ^ (Dv+1075).toNat) (2 ^ (-(Dv+1075)).toNat):=by
 unfold Ieee.Format.nearest
 rw [if_neg (by omega)]
 simp only [E6,binade,inf_rung,Nat.shiftLeft_eq,show Ieee.double.fractionBits=52 from rfl]
 obtain ⟨last,hl⟩:∃last:Int,last=max (Dv+mag.log2 - ((52:Nat):Int)) (-1074):=⟨_,rfl⟩
 rw [<-hl]
 obtain ⟨k,hk⟩:∃k:Nat,last=k - 1074:=⟨(last+1074).toNat,by omega⟩
 rw [show (last - -1074).toNat=k by omega]
 obtain ⟨up,hup⟩:∃u,u=(Dv - last).toNat:=⟨_,rfl⟩
 obtain ⟨dn,hdn⟩:∃u,u=(last - Dv).toNat:=⟨_,rfl⟩
 rw [<-hup,<-hdn]
 obtain ⟨c1,c2,c3⟩:=cut_spec neg (mag * 2 ^ up) dn
 generalize hM:Toward.even.cut neg (mag * 2 ^ up) dn=m at *
 have hlo:2 ^ mag.log2<=mag:=Nat.log2_self_le (by omega)
 have hhi:mag<2 ^ (mag.log2+1):=Nat.lt_log2_self
 have hG:=Nat.two_pow_pos dn
 have b53:mag * 2 ^ up<9007199254740992 * 2 ^ dn:=by
   have:mag * 2 ^ up<2 ^ (mag.log2+1) * 2 ^ up:=Nat.mul_lt_mul_of_pos_right hhi (Nat.two_pow_pos up);rw [<-Nat.pow_add] at this;have h2:2 ^ (mag.log2+1+up)<=2 ^ (53+dn):=Nat.pow_le_pow_right (by decide) (by omega);rw [Nat.pow_add 2 53] at h2;exact Nat.lt_of_lt_of_le this h2
 have b52:k=0\/4503599627370496 * 2 ^ dn<=mag * 2 ^ up:=by
   rcases Nat.eq_zero_or_pos k with h | h
   · exact .inl h
   · right
     have:2 ^ mag.log2 * 2 ^ up<=mag * 2 ^ up:=Nat.mul_le_mul_right _ hlo;rw [<-Nat.pow_add] at this;have h2:2 ^ (52+dn)<=2 ^ (mag.log2+up):=Nat.pow_le_pow_right (by decide) (by omega);rw [Nat.pow_add 2 52] at h2;exact Nat.le_trans h2 this
 have hrel:mag * 2 ^ (Dv+1075).toNat * 2 ^ dn=2 * (mag * 2 ^ up) * 2 ^ k * 2 ^ (-(Dv+1075)).toNat:=by
   have e:2 ^ (Dv+1075).toNat * 2 ^ dn=2 * 2 ^ up * 2 ^ k * 2 ^ (-(Dv+1075)).toNat:=by
     rw [<-Nat.pow_succ', <-Nat.pow_add,<-Nat.pow_add,<-Nat.pow_add];congr 1;omega
   rw [Nat.mul_assoc,e];simp only [Nat.mul_assoc,Nat.mul_left_comm,Nat.mul_comm]
 generalize mag * 2 ^ up=n at *
 generalize mag * 2 ^ (Dv+1075).toNat=a at *
 have hb:=Nat.two_pow_pos (-(Dv+1075)).toNat
 generalize 2 ^ (-(Dv+1075)).toNat=b at *
 generalize 2 ^ dn=G at *
 have hT:0<2 ^ k * b:=Nat.mul_pos (Nat.two_pow_pos k) hb
 have eT:∀c:Nat,c * 2 ^ k * b=c * (2 ^ k * b):=fun c=>Nat.mul_assoc _ _ _
 rw [eT] at hrel
 generalize hTe:2 ^ k * b=T at *
 have m1:m<=9007199254740992:=by
   rcases Nat.lt_or_ge 9007199254740992 m with h | h
   · have:2 * 9007199254740993 * G<=2 * m * G:=Nat.mul_le_mul_right _ (by omega)
     omega
   · exact h
 have m0:k=0\/4503599627370496<=m:=by
   rcases b52 with h | h
   · exact .inl h
   · right
     rcases Nat.lt_or_ge m 4503599627370496 with h9 | h9
     · have:(2 * m+1) * G<=9007199254740991 * G:=Nat.mul_le_mul_right _ (by omega)
       omega
     · exact h9
 refine ⟨k * 4503599627370496+m,rfl,inI_of m0 m1 ?_ ?_ ?_ ?_⟩
 · rw [eT,hTe]
   refine Nat.le_of_mul_le_mul_right ?_ hG;rw [Nat.add_mul,hrel,Nat.mul_right_comm,Nat.mul_comm T G,<-Nat.add_mul];exact Nat.mul_le_mul_right _ c1
 · rw [eT]
   refine Nat.le_of_mul_le_mul_right ?_ hG;rw [hrel,Nat.mul_right_comm (2 * m+1) T G];exact Nat.mul_le_mul_right _ c2
 · rw [eT,eT,hTe]
   intro h;refine c3 ?_;rcases h with h | h
   · left
     refine Nat.eq_of_mul_eq_mul_right hT ?_;have:2 * m * T * G=(a+T) * G:=by rw [h]
     rw [Nat.add_mul,hrel,Nat.mul_right_comm,Nat.mul_comm T G,<-Nat.add_mul] at this;exact this
   · right
     refine Nat.eq_of_mul_eq_mul_right hT ?_;have:2 * n * T=(2 * m+1) * T * G:=by rw [<-hrel,h]
     rw [this,Nat.mul_right_comm]
 · rcases b52 with h | h
   · exact .inl h
   · have hm9:4503599627370496<=m:=by
       rcases Nat.lt_or_ge m 4503599627370496 with h9 | h9
       · have:(2 * m+1) * G<=9007199254740991 * G:=Nat.mul_le_mul_right _ (by omega)
         omega
       · exact h9
     rcases Nat.eq_or_lt_of_le hm9 with h9 | h9
     · right;right
       rw [eT,hTe];have:4503599627370496 * G * T<=n * T:=Nat.mul_le_mul_right _ h;have h8:2 * 4503599627370496 * T<=a:=by
         refine Nat.le_of_mul_le_mul_right ?_ hG;rw [hrel,Nat.mul_assoc 2,Nat.mul_assoc 2,Nat.mul_assoc 2 n];refine Nat.mul_le_mul_left 2 ?_;rw [Nat.mul_right_comm];exact this
       rw [<-h9];omega
     · exact .inr (.inl h9)
end Go.Proofs.YtagkgfniihiinaaGreatDoor
