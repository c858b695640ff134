/- internal/strconv.prescale and the small ones beside it. -/
import Derived.Test.YteoalcmhdoopnaaGreatDoorUscW
import Derived.Test.YteoalcmhdoopnaaGreatDoorBase
import Derived.Test.YteoalcmhdoopnaaGreatDoorJ57
namespace Go.Proofs.YteoalcmhdoopnaaGreatDoor
open Go.RowKit
def Pows (w:World):Prop:=∀p:Int,-348<=p->p<=347->w.cell? ⟨13,(p+348).toNat * 2,none⟩=some (.int .u64 (hiT p:Int))/\w.cell? ⟨13,(p+348).toNat * 2+1,none⟩=some (.int .u64 (loT p:Int))
theorem Pows.lt {w:World} (h:Pows w):13<w.heap.size:=World.block_lt_of_cell? _ _ (h 0 (by decide) (by decide)).1
theorem Pows.fr {S:Nat->Prop} {w w' : World} (h:Pows w) (hf:Fr S w w') (hS:¬S 13):Pows w' := fun p h0 h1=>⟨hf.cell (h p h0 h1).1 hS,hf.cell (h p h0 h1).2 hS⟩
theorem Pows.below {B:Nat} {w w' : World} (h:Pows w) (hb:Below B w w') (hB:13<B):Pows w' := h.fr (Fr.of_below hb) (Nat.not_le_of_lt hB)
theorem log2P_any (x:Int) (h0:-1000<=x) (h1:x<=1000) (w:World):Calls Tryz.prog 134 #[.int .i64 x] w fun e w' => e=.returned (.int .i64 (lp10 x))/\w' = w:=by
 go_enter Tryz.func134,Tryz.ntmps134
 go_wp2;go_ret;exact ⟨rfl,rfl⟩
theorem log10P_any (x:Int) (h0:-3000<=x) (h1:x<=3000) (w:World):Calls Tryz.prog 96 #[.int .i64 x] w fun e w' => e=.returned (.int .i64 (Bp x))/\w' = w:=by
 go_enter Tryz.func96,Tryz.ntmps96
 go_wp2;go_ret;exact ⟨rfl,rfl⟩
theorem skewed_any (x:Int) (h0:-3000<=x) (h1:x<=3000) (w:World):Calls Tryz.prog 132 #[.int .i64 x] w fun e w' => e=.returned (.int .i64 (skewF x))/\w' = w:=by
 go_enter Tryz.func132,Tryz.ntmps132
 go_wp2;go_ret;exact ⟨rfl,rfl⟩
theorem ceil_any (u:Nat) (h:u<18446744073709551000) (w:World):Calls Tryz.prog 137 #[.int .u64 (u:Int)] w fun e w' => e=.returned (.int .u64 (((u+3) / 4:Nat):Int))/\w' = w:=by
 go_enter Tryz.func137,Tryz.ntmps137
 go_wp2;go_ret;exact ⟨rfl,rfl⟩
theorem floor_any (u:Nat) (h:u<18446744073709551000) (w:World):Calls Tryz.prog 138 #[.int .u64 (u:Int)] w fun e w' => e=.returned (.int .u64 ((u / 4:Nat):Int))/\w' = w:=by
 go_enter Tryz.func138,Tryz.ntmps138
 go_wp2;go_ret;exact ⟨by simp,rfl⟩
theorem round_any (u:Nat) (h:u<18446744073709551000) (w:World):Calls Tryz.prog 139 #[.int .u64 (u:Int)] w fun e w' => e=.returned (.int .u64 ((rndU u:Nat):Int))/\w' = w:=by
 obtain ⟨q,hq⟩:∃q,q=u / 4:=⟨_,rfl⟩;have hd:((u:Int)) / 4=(q:Int):=by omega
 obtain ⟨m,hm⟩:∃m,m=q % 2:=⟨_,rfl⟩;have hand:bits .and .u64 (q:Int) 1=(m:Int):=by
   have:=A7 (x:=q) (y:=1) (by omega) (by omega);rw [and_1,<-hm] at this;exact this
 have hr:((u:Int)+1+(m:Int)) / 4=((rndU u:Nat):Int):=by unfold rndU;omega
 have hm2:m<=1:=by omega
 generalize rndU u=r at *;clear hq hm
 go_enter Tryz.func139,Tryz.ntmps139
 go_wp2;go_ret;exact ⟨rfl,rfl⟩
theorem hi_lt {p:Int} (h0:-348<=p) (h1:p<=347):9223372036854775808<=hiT p/\hiT p<18446744073709551616:=by
 obtain ⟨_,hh⟩:=at10 hi_ok D3 h0 h1;rw [hiOk,Bool.and_eq_true,decide_eq_true_eq,decide_eq_true_eq] at hh;exact hh
set_option maxRecDepth 100000 in
set_option maxHeartbeats 1600000 in
theorem Bv {w:World} {b:Nat} {e p l:Int} {c0 c1 c2:Value} (hb:Blk w b) (h0:w.cell? ⟨b,0,none⟩=some c0) (h1:w.cell? ⟨b,1,none⟩=some c1) (h2:w.cell? ⟨b,2,none⟩=some c2) (hP:Pows w)
   (hbg:b≠13) (p0:-348<=p) (p1:p<=347) (e0:-3000<=e) (e1:e<=3000) (l0:-3000<=l) (l1:l<=3000) :
   Calls Tryz.prog 133 #[.pointer (some ⟨b,0,none⟩),.int .i64 e,.int .i64 p,.int .i64 l] w fun x w' => x=.returned (.tuple #[]) /\
     w' = ((w.setCell ⟨b,0,none⟩ (.int .u64 (hiT p:Int))).setCell ⟨b,1,none⟩ (.int .u64 (loT p:Int))).setCell ⟨b,2,none⟩ (.int .i64 (-(e+l+3))):=by
 obtain ⟨t0,t1⟩:=hP p p0 p1
 have g0:=(hi_lt p0 p1).2
 have g1:=lo_lt p
 generalize hiT p=H at *
 generalize loT p=L at *
 obtain ⟨q,hq⟩:∃q:Nat,q=(p+348).toNat:=⟨_,rfl⟩
 rw [<-hq] at t0 t1
 have hqe:p+348=(q:Int):=by omega
 have hq6:q<696:=by omega
 have z0:=hb.frz 0 none
 have z1:=hb.frz 1 none
 have z2:=hb.frz 2 none
 have hbg' : ¬(13=b):=fun h=>hbg h.symm
 clear hP hb hq
 go_enter Tryz.func133,Tryz.ntmps133
 go_wp2
 go_end0
 exact ⟨rfl,rfl⟩
end Go.Proofs.YteoalcmhdoopnaaGreatDoor
namespace Go.Proofs.YteoalcmhdoopnaaGreatDoor
def fixX (r:Nat):Int:=(rK r:Int) - 1011 - fS r
def fixP (r n:Nat):Int:=n - 1 - Bp (fixX r)
def C9 (r n:Nat):Int:=fS r+1071 - lp10 (fixP r n) - rK r
def fixU (r n:Nat):Nat:=Bg 18446744073709551616 (xM r) (hiT (fixP r n)) (loT (fixP r n)) (C9 r n).toNat
def divU (u:Nat):Nat:=A5 (u / 10) (decide (u % 10≠0))
def fixN (r n:Nat):Nat × Int:=if 4 * 10 ^ n - 2<=fixU r n then (rndU (divU (fixU r n)),1 - fixP r n) else (rndU (fixU r n),-fixP r n)
theorem stick_ite (q:Nat) (c:Prop) [Decidable c]:A5 q (decide c)=if c then q / 2 * 2+1 else q:=by
 unfold A5;by_cases h:c
 · rw [decide_eq_true h,if_pos rfl,if_pos h]
 · rw [decide_eq_false h,if_neg h];rfl
theorem unr_div (y:Nat) {E:Nat} (hE0:0<E):divU (unr y E)=unr y (E * 10):=by
 unfold divU unr;rw [<-Nat.div_div_eq_div_mul,Nat.mod_mul,stick_ite,stick_ite,stick_ite];generalize y / E=f;generalize y % E=m;have hp:(E * (f % 10)=0) ↔ f % 10=0:=by
   constructor
   · intro h
     rcases Nat.mul_eq_zero.1 h with h | h
     · omega
     · exact h
   · intro h;rw [h,Nat.mul_zero]
 generalize E * (f % 10)=g at *;by_cases hm:m=0
 · subst hm
   by_cases h10:f % 10=0
   · have:=hp.2 h10
     simp [h10,this]
   · have:g≠0:=fun e=>h10 (hp.1 e)
     simp [h10,this]
 · have h1:(f / 2 * 2+1) % 10≠0:=by omega
   have h2:m+g≠0:=by omega
   have h3:(f / 2 * 2+1) / 10=f / 10:=by omega
   rw [if_pos hm,if_pos h1,if_pos h2,h3]
theorem unr_ge {y E X:Nat} (hE:0<E):4 * X - 2<=unr y E ↔ (4 * X - 2) * E<=y:=by
 obtain ⟨h1,h2⟩:=Cv (y:=y) hE;generalize hu:unr y E=u at *;rcases Nat.mod_two_eq_zero_or_one u with h0 | h0
 · have:=h1 h0
   constructor
   · intro h;rw [this];exact Nat.mul_le_mul_right _ h
   · intro h;rw [this] at h;exact Nat.le_of_mul_le_mul_right h hE
 · obtain ⟨a,b⟩:=h2 h0
   constructor
   · intro h
     have:(4 * X - 2) * E<=(u - 1) * E:=Nat.mul_le_mul_right _ (by omega);omega
   · intro h
     have:(4 * X - 2) * E<(u+1) * E:=by omega
     have:=Nat.lt_of_mul_lt_mul_right this;omega
def tK:Nat:=400
theorem tK_is:tK=400:=rfl
def tT (q:Int):Nat:=10 ^ (q+tK).toNat * 2 ^ hp
def vT (r:Nat):Nat:=2 * rv r * 10 ^ tK
theorem Ed (q:Int):0<tT q:=Nat.mul_pos (Nat.pow_pos (by decide)) (Nat.two_pow_pos _)
theorem tT_add {q:Int} (h:-400<=q) (a:Nat):tT (q+a)=10 ^ a * tT q:=by
 have hk:=tK_is;unfold tT;rw [show (q+a+tK).toNat=a+(q+tK).toNat by omega,Nat.pow_add,Nat.mul_assoc]
theorem tT_succ {q:Int} (h:-400<=q):tT (q+1)=10 * tT q:=by
 have:=tT_add h 1;simpa using this
theorem dec_T {r c:Nat} {q:Int} (h:-400<=q):InI r (decA c q) (Ah q) ↔ InI r (c * tT q) (10 ^ tK):=by
 have hk:=tK_is;unfold decA Ah tT;rcases Int.lt_or_le q 0 with h0 | h0
 · have e:=(InI.scale (r:=r) (a:=c * 10 ^ q.toNat * 2 ^ hp) (b:=10 ^ (-q).toNat) (c:=10 ^ (q+tK).toNat) (Nat.pow_pos (by decide))).symm
   rw [<-Nat.pow_add,show (-q).toNat+(q+tK).toNat=tK by omega] at e;rw [e,show q.toNat=0 by omega,Nat.pow_zero,Nat.mul_one,Nat.mul_assoc,Nat.mul_comm (2 ^ hp)]
 · have e:=(InI.scale (r:=r) (a:=c * 10 ^ q.toNat * 2 ^ hp) (b:=10 ^ (-q).toNat) (c:=10 ^ tK) (Nat.pow_pos (by decide))).symm
   rw [e,show (-q).toNat=0 by omega,Nat.pow_zero,Nat.one_mul,show (q+tK).toNat=q.toNat+tK by omega,Nat.pow_add];generalize 10 ^ q.toNat=a;generalize 10 ^ tK=b;generalize 2 ^ hp=d;rw [show c * a * d * b=c * (a * b * d) by simp only [Nat.mul_assoc,Nat.mul_left_comm,Nat.mul_comm]]
theorem rel_T {x μ k s sc:Nat} {p:Int} (hp0:-348<=p) (hp1:p<=347) (hs:1<=s) (hx:x * 2 ^ k=μ * 2 ^ (s - 1)) (hsc:(sc:Int)=s+1071 - lp10 p - k) :
   x * tN p * tT (-p)=4 * (tD p * (18446744073709551616 * 18446744073709551616) * 2 ^ sc) * (μ * 10 ^ tK):=by
 have hk:=tK_is
 have h:=rel2 hs hx hsc
 generalize tD p * (18446744073709551616 * 18446744073709551616) * 2 ^ sc=E at *
 generalize x * tN p=y at *
 unfold Ah at h
 rw [Int.neg_neg] at h
 unfold tT
 obtain ⟨z,hz⟩:∃z,z=tK - p.toNat:=⟨_,rfl⟩
 have e1:(-p+tK).toNat=(-p).toNat+z:=by omega
 have e2:(10:Nat) ^ tK=10 ^ p.toNat * 10 ^ z:=by rw [<-Nat.pow_add];congr 1;omega
 rw [e1,e2,Nat.pow_add]
 generalize (10:Nat) ^ z=Z at *
 generalize (10:Nat) ^ (-p).toNat=a at *
 generalize (10:Nat) ^ p.toNat=b at *
 generalize 2 ^ hp=d at *
 rw [show y * (a * Z * d)=y * (a * d) * Z by simp only [Nat.mul_assoc,Nat.mul_left_comm,Nat.mul_comm],<-h]
 simp only [Nat.mul_assoc,Nat.mul_left_comm,Nat.mul_comm]
theorem rnd_near {y E t V:Nat} (hE:0<E) (ht:0<t) (q:y * t=4 * E * V) :
   2 * V<=(2 * rndU (unr y E)+1) * t/\2 * rndU (unr y E) * t<=2 * V+t/\(2 * V=(2 * rndU (unr y E)+1) * t\/2 * rndU (unr y E) * t=2 * V+t->rndU (unr y E) % 2=0):=by
 obtain ⟨h1,h2,h3⟩:=Fc (y:=y) hE
 generalize rndU (unr y E)=c at *
 have e1:(4 * c+2) * E * t=2 * E * ((2 * c+1) * t):=by
   rw [show 4 * c+2=2 * (2 * c+1) by omega];simp only [Nat.mul_assoc,Nat.mul_left_comm,Nat.mul_comm]
 have e2:4 * c * E * t=2 * E * (2 * c * t):=by
   rw [show 4 * c=2 * (2 * c) by omega];simp only [Nat.mul_assoc,Nat.mul_left_comm,Nat.mul_comm]
 have e3:4 * E * V=2 * E * (2 * V):=by
   rw [show 4 * E=2 * E * 2 by omega];simp only [Nat.mul_assoc]
 have hE2:0<2 * E:=by omega
 refine ⟨?_,?_,fun h=>h3 ?_⟩
 · refine Nat.le_of_mul_le_mul_left ?_ hE2
   rw [<-e1,<-e3,<-q];exact Nat.mul_le_mul_right _ h1
 · refine Nat.le_of_mul_le_mul_left ?_ hE2
   rw [Nat.mul_add,<-e2,<-e3,<-q,<-Nat.add_mul];exact Nat.mul_le_mul_right _ h2
 · rcases h with h | h
   · left
     refine Nat.eq_of_mul_eq_mul_right ht ?_;rw [e1,<-h,<-e3,q]
   · right
     refine Nat.eq_of_mul_eq_mul_right ht ?_;rw [e2,h,Nat.mul_add,<-e3,<-q,<-Nat.add_mul]
theorem E3 {a:Nat} (h:0<a) (t:Nat):(a - 1) * t+t=a * t:=by
 obtain ⟨b,rfl⟩:∃b,a=b+1:=⟨a - 1,by omega⟩;rw [Nat.add_sub_cancel,Nat.succ_mul]
structure Fix (n d V t tm:Nat):Prop where
 low:10 ^ (n - 1)<=d
 high:d<10 ^ n
 near1:2 * V<=(2 * d+1) * t
 near2:2 * d * t<=2 * V+t
 even:2 * V=(2 * d+1) * t\/2 * d * t=2 * V+t->d % 2=0
 back:(2 * 10 ^ n - 1) * tm<=2 * V
def rngF (x:Int) (n:Nat):Bool:=decide (-348<=(n:Int) - 1 - Bp x) && decide ((n:Int) - 1 - Bp x<=347) && decide (4<=60 - x - lp10 ((n:Int) - 1 - Bp x)) && decide (60 - x - lp10 ((n:Int) - 1 - Bp x)<64)
theorem rng_f:allN 2098 (fun i=>allN 18 (fun n=>decide (n=0) || rngF ((i:Int) - 1074) n))=true:=by decide +kernel
def powF (x:Int):Bool:=decide (tT (Bp x)<=10 ^ tK * 2 ^ (x+1075).toNat) && decide (2 * (10 ^ tK * 2 ^ (x+1075).toNat)<20 * tT (Bp x)) && decide (-360<=Bp x) && decide (Bp x<=310)
theorem pow_f:allN 2098 (fun i=>powF ((i:Int) - 1074))=true:=by decide +kernel
theorem fixX_rng {r:Nat} (h:0<r) (hr:r<9218868437227405312):∃i:Nat,i<2098/\fixX r=(i:Int) - 1074:=by
 obtain ⟨s0,s1,s2,_,_⟩:=Bf h;have hk:=Fh hr;refine ⟨(fixX r+1074).toNat,?_,?_⟩<;>unfold fixX <;>
 · rcases Nat.eq_zero_or_pos (rK r) with h0 | h0
   · omega
   · have:=s2 h0;omega
theorem fixP_spec {r n:Nat} (h:0<r) (hr:r<9218868437227405312) (h1:1<=n) (h17:n<=17):-348<=fixP r n/\fixP r n<=347/\4<=C9 r n/\C9 r n<64:=by
 obtain ⟨i,hi,e⟩:=fixX_rng h hr;have:=Bu (Bu rng_f i hi) n (by omega);rw [<-e] at this;simp only [rngF,Bool.or_eq_true,Bool.and_eq_true,decide_eq_true_eq] at this;unfold C9;have e2:(fS r:Int)+1071 - rK r=60 - fixX r:=by unfold fixX;omega
 unfold fixP;omega
theorem val_bounds {r:Nat} (h:0<r) (hr:r<9218868437227405312):tT (Bp (fixX r))<=vT r/\vT r<20 * tT (Bp (fixX r))/\-360<=Bp (fixX r)/\Bp (fixX r)<=310:=by
 obtain ⟨i,hi,e⟩:=fixX_rng h hr;have:=Bu pow_f i hi;rw [<-e] at this;simp only [powF,Bool.and_eq_true,decide_eq_true_eq] at this;obtain ⟨s0,s1,s2,m0,m1⟩:=Bf h;have hx:(fixX r+1075).toNat+fS r=rK r+64:=by
   have:(fixX r+1075).toNat=(rK r+64) - fS r:=by unfold fixX;omega
   omega
 have hm1:xM r<18446744073709551616:=by have:=Nat.two_pow_pos (fS r);omega
 have hv:2 * rv r * 2 ^ fS r=2 * xM r * 2 ^ rK r:=by
   rw [Cd];unfold xM;simp only [Nat.mul_assoc,Nat.mul_left_comm,Nat.mul_comm]
 have hF:=Nat.two_pow_pos (fS r);have hpw:2 ^ (fixX r+1075).toNat * 2 ^ fS r=18446744073709551616 * 2 ^ rK r:=by
   rw [<-Nat.pow_add,hx,Nat.pow_add,Nat.mul_comm]
 have lo:2 ^ (fixX r+1075).toNat<=2 * rv r:=by
   refine Nat.le_of_mul_le_mul_right ?_ hF;rw [hv,hpw];exact Nat.mul_le_mul_right _ (by omega)
 have hi:2 * rv r<2 * 2 ^ (fixX r+1075).toNat:=by
   refine Nat.lt_of_mul_lt_mul_right (a:=2 ^ fS r) ?_;rw [hv,Nat.mul_assoc 2 (xM r),Nat.mul_assoc 2 (2 ^ _),hpw];exact Nat.mul_lt_mul_of_pos_left (Nat.mul_lt_mul_of_pos_right hm1 (Nat.two_pow_pos _)) (by decide)
 have t4:0<(10:Nat) ^ tK:=Nat.pow_pos (by decide);unfold vT;generalize tT (Bp (fixX r))=t at *;generalize 2 ^ (fixX r+1075).toNat=P at *;generalize (10:Nat) ^ tK=Z at *;have a1:Z * P<=2 * rv r * Z:=by rw [Nat.mul_comm Z];exact Nat.mul_le_mul_right _ lo
 have a2:2 * rv r * Z<2 * (Z * P):=by rw [Nat.mul_comm Z,<-Nat.mul_assoc];exact Nat.mul_lt_mul_of_pos_right hi t4
 omega
theorem D9 {r n:Nat} (h:0<r) (hr:r<9218868437227405312) (h1:1<=n) (h17:n<=17) :
   Fix n (fixN r n).1 (vT r) (tT (fixN r n).2) (tT ((fixN r n).2 - 1))/\-380<=(fixN r n).2/\(fixN r n).2<=350:=by
 obtain ⟨p0,p1,s0,s1⟩:=fixP_spec h hr h1 h17
 obtain ⟨v0,v1,l0,l1⟩:=val_bounds h hr
 obtain ⟨f0,f1,f2,_,_⟩:=Bf h
 obtain ⟨_,⟨m0,m1,m9⟩,_⟩:=Fn h
 obtain ⟨sc,hsc⟩:∃k:Nat,C9 r n=k:=⟨(C9 r n).toNat,by omega⟩
 have hx:xM r * 2 ^ rK r=(2 * rv r) * 2 ^ (fS r - 1):=by
   obtain ⟨a1,_⟩:=Dv f0;rw [Cd];unfold xM;rw [a1];simp only [Nat.mul_assoc,Nat.mul_left_comm,Nat.mul_comm]
 have hrel:=rel_T (sc:=sc) (p:=fixP r n) p0 p1 (by omega) hx (by rw [<-hsc];rfl)
 have hu:fixU r n=unr (xM r * tN (fixP r n)) (tD (fixP r n) * (18446744073709551616 * 18446744073709551616) * 2 ^ sc):=by
   have:=uscale_f (s:=sc) p0 p1 (by omega) m0 m1 m9;unfold fixU;rw [hsc,Int.toNat_natCast];exact this
 have hE:0<tD (fixP r n) * (18446744073709551616 * 18446744073709551616) * 2 ^ sc:=Nat.mul_pos (Nat.mul_pos (Cm _) (by decide)) (Nat.two_pow_pos sc)
 rw [show 2 * rv r * 10 ^ tK=vT r from rfl] at hrel
 have hq:Bp (fixX r)=-fixP r n+((n - 1:Nat):Int):=by unfold fixP;omega
 have hT:tT (Bp (fixX r))=10 ^ (n - 1) * tT (-fixP r n):=by rw [hq];exact tT_add (by omega) _
 rw [hT] at v0 v1
 have hT1:tT (-fixP r n+1)=10 * tT (-fixP r n):=tT_succ (by omega)
 have hTm:tT (-fixP r n)=10 * tT (-fixP r n - 1):=by
   have:=tT_succ (q:=-fixP r n - 1) (by omega);rw [show -fixP r n - 1+1=-fixP r n by omega] at this;exact this
 have ht:=Ed (-fixP r n)
 have hP:(10:Nat) ^ n=10 * 10 ^ (n - 1):=by
   obtain ⟨k,rfl⟩:∃k,n=k+1:=⟨n - 1,by omega⟩;rw [Nat.pow_succ,Nat.mul_comm];simp
 have hPp:0<(10:Nat) ^ (n - 1):=Nat.pow_pos (by decide)
 unfold fixN
 rw [hu]
 have hge:=unr_ge (y:=xM r * tN (fixP r n)) (X:=10 ^ n) hE
 generalize xM r * tN (fixP r n)=y at *
 generalize tD (fixP r n) * (18446744073709551616 * 18446744073709551616) * 2 ^ sc=E at *
 obtain ⟨V,hV⟩:∃V,V=vT r:=⟨_,rfl⟩
 rw [<-hV] at hrel v0 v1 ⊢
 clear hV
 by_cases hc:4 * 10 ^ n - 2<=unr y E
 · rw [if_pos hc]
   dsimp only;have hy:=hge.1 hc;rw [unr_div y hE,show (1:Int) - fixP r n=-fixP r n+1 by omega,show -fixP r n+1 - 1=-fixP r n by omega];have hrel2:y * tT (-fixP r n+1)=4 * (E * 10) * V:=by rw [hT1,Nat.mul_left_comm,hrel];simp only [Nat.mul_assoc,Nat.mul_left_comm,Nat.mul_comm]
   have hE2:0<E * 10:=by omega
   obtain ⟨n1,n2,n3⟩:=rnd_near hE2 (Ed _) hrel2;have hback:(2 * 10 ^ n - 1) * tT (-fixP r n)<=2 * V:=by
     have h2E:0<2 * E:=by omega
     refine Nat.le_of_mul_le_mul_left ?_ h2E;have e3:2 * E * (2 * V)=y * tT (-fixP r n):=by rw [hrel,show 4 * E=2 * E * 2 by omega];simp only [Nat.mul_assoc]
     rw [e3,show 2 * E * ((2 * 10 ^ n - 1) * tT (-fixP r n))=(4 * 10 ^ n - 2) * E * tT (-fixP r n) by
       rw [show 4 * 10 ^ n - 2=(2 * 10 ^ n - 1) * 2 by omega];simp only [Nat.mul_assoc,Nat.mul_left_comm,Nat.mul_comm]]
     exact Nat.mul_le_mul_right _ hy
   generalize rndU (unr y (E * 10))=c at *;rw [hT1] at n1 n2 n3 ⊢;generalize tT (-fixP r n)=t at *;refine ⟨⟨?_,?_,n1,n2,n3,hback⟩,by omega,by omega⟩
   · rw [hP] at hback
     generalize 10 ^ (n - 1)=P at *;have a1:(2 * (10 * P) - 1) * t<=(2 * c+1) * 10 * t:=by rw [Nat.mul_assoc (2 * c+1)];omega
     have:=Nat.le_of_mul_le_mul_right a1 ht;omega
   · rw [hP] at hback ⊢
     generalize 10 ^ (n - 1)=P at *;have a1:2 * c * 10 * t<(40 * P+10) * t:=by
       have e1:2 * c * (10 * t)=2 * c * 10 * t:=by simp only [Nat.mul_assoc]
       have e2:(40 * P+10) * t=2 * (20 * (P * t))+10 * t:=by rw [Nat.add_mul,Nat.mul_assoc];omega
       omega
     have:=Nat.lt_of_mul_lt_mul_right a1;omega
 · rw [if_neg hc]
   dsimp only;have hy:y<(4 * 10 ^ n - 2) * E:=by
     rcases Nat.lt_or_ge y ((4 * 10 ^ n - 2) * E) with h9 | h9
     · exact h9
     · exact absurd (hge.2 h9) hc
   obtain ⟨n1,n2,n3⟩:=rnd_near hE ht hrel;have hlt:2 * V<(2 * 10 ^ n - 1) * tT (-fixP r n):=by
     refine Nat.lt_of_mul_lt_mul_left (a:=2 * E) ?_;have e3:2 * E * (2 * V)=y * tT (-fixP r n):=by rw [hrel,show 4 * E=2 * E * 2 by omega];simp only [Nat.mul_assoc]
     rw [e3,show 2 * E * ((2 * 10 ^ n - 1) * tT (-fixP r n))=(4 * 10 ^ n - 2) * E * tT (-fixP r n) by
       rw [show 4 * 10 ^ n - 2=(2 * 10 ^ n - 1) * 2 by omega];simp only [Nat.mul_assoc,Nat.mul_left_comm,Nat.mul_comm]]
     exact Nat.mul_lt_mul_of_pos_right hy ht
   generalize rndU (unr y E)=c at *;have hTm' := hTm;generalize tT (-fixP r n - 1)=tm at *;generalize tT (-fixP r n)=t at *;rw [hP] at hlt;refine ⟨⟨?_,?_,n1,n2,n3,?_⟩,by omega,by omega⟩
   · generalize 10 ^ (n - 1)=P at *
     have a1:2 * P * t<=(2 * c+1) * t:=by rw [Nat.mul_assoc];omega
     have:=Nat.le_of_mul_le_mul_right a1 ht;omega
   · rw [hP]
     generalize 10 ^ (n - 1)=P at *;have a1:2 * c * t<(2 * (10 * P)) * t:=by
       have e1:(2 * (10 * P) - 1) * t+t=2 * (10 * P) * t:=E3 (by omega) t;omega
     have:=Nat.lt_of_mul_lt_mul_right a1;omega
   · rw [hP]
     generalize 10 ^ (n - 1)=P at *;have e1:(2 * (10 * P) - 1) * tm<=2 * (10 * P) * tm:=Nat.mul_le_mul_right _ (by omega);have e2:2 * (10 * P) * tm=2 * (P * (10 * tm)):=by simp only [Nat.mul_assoc,Nat.mul_left_comm,Nat.mul_comm]
     rw [<-hTm'] at e2;omega
end Go.Proofs.YteoalcmhdoopnaaGreatDoor
