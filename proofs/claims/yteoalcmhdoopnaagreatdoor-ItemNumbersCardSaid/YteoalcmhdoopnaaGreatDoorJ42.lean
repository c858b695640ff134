/- The document's text of a number, from its digits and its power of ten (no program in sight). -/
import Derived.Test.YteoalcmhdoopnaaGreatDoorJ31
import Derived.Test.YteoalcmhdoopnaaGreatDoorJ55
import Derived.Test.YteoalcmhdoopnaaGreatDoorJ54
import Derived.Test.YteoalcmhdoopnaaGreatDoorP64W
import Derived.Test.YteoalcmhdoopnaaGreatDoorQuiet
namespace Go.Proofs.YteoalcmhdoopnaaGreatDoor
def layE (n:Nat):List UInt8:=(if n<10 then [48] else [])++Lib.itoa (n:Int)
def layL (D:List UInt8) (x:Int):List UInt8:=
 if x < -4\/21<=x then D.take 1++((if 1<D.length then 46 :: D.drop 1 else [])++(101 :: ((if x<0 then 45 else 43) :: layE x.natAbs)))
 else if x<0 then [48,46]++(List.replicate (-x - 1).toNat 48++D)
 else if (D.length:Int)<=x+1 then D++List.replicate ((x+1).toNat - D.length) 48
 else D.take (x+1).toNat++46 :: D.drop (x+1).toNat
def expTab (n:Nat):Bool:=decide (layE n=(expL (n:Int)).tail)
theorem exp_tabs:allN 1000 expTab=true:=by decide +kernel
theorem expL_lay (x:Int) (h:x.natAbs<1000):expL x=(if x<0 then 45 else 43) :: layE x.natAbs:=by
 have h1:=Bu exp_tabs x.natAbs h;have h2:layE x.natAbs=(expL (x.natAbs:Int)).tail:=of_decide_eq_true h1;rw [h2];unfold expL;rw [List.tail_cons,Int.natAbs_natCast]
theorem lay_eff {D:List UInt8} {x:Int} (hD:D≠[]) (hx:x.natAbs<1000):layL D x=if x < -4\/21<=x then effE false D (x+1) else effF false D (x+1):=by
 obtain ⟨c,T,rfl⟩:∃c T,D=c :: T:=by cases D with | nil=>exact absurd rfl hD | cons c T=>exact ⟨c,T,rfl⟩
 unfold layL;by_cases h:x < -4\/21<=x
 · rw [if_pos h,if_pos h]
   unfold effE;rw [if_neg hD,show x+1 - 1=x by omega,expL_lay x hx];simp [At]
 · rw [if_neg h,if_neg h]
   unfold effF;by_cases h0:x<0
   · rw [if_pos h0,if_neg (by omega:¬0<x+1),if_pos (by rw [List.length_cons];omega),show (x+1).toNat=0 by omega,show -(x+1)=-x - 1 by omega]
     simp [At]
   · rw [if_neg h0,if_pos (by omega:0<x+1)]
     by_cases h1:((c :: T).length:Int)<=x+1
     · rw [if_pos h1,if_neg (by omega),List.take_of_length_le (by omega)]
       simp [At]
     · rw [if_neg h1,if_pos (by omega),show (x+1).toNat - (c :: T).length=0 by omega,show (-(x+1)).toNat=0 by omega]
       simp [At]
theorem dec_mul10 {s:Nat} (h:0<s):Lib.decDigits (s * 10)=Lib.decDigits s++[48]:=by
 rw [Lib.decDigits,dif_neg (by omega),show s * 10 / 10=s by omega,show s * 10 % 10=0 by omega];rfl
theorem Gn {s:Nat} (h:0<s):∀k,Lib.decDigits (s * 10 ^ k)=Lib.decDigits s++List.replicate k 48
 | 0=>by simp
 | k+1=>by
   rw [Nat.pow_succ,<-Nat.mul_assoc,dec_mul10 (Nat.mul_pos h (Nat.pow_pos (by decide))),Gn h k,List.append_assoc,List.replicate_succ']
theorem dec_last {s:Nat} (h:s % 10≠0):∃l c,Lib.decDigits s=l++[c]/\c≠48:=by
 have key:∀n:Nat,n<10->n≠0->UInt8.ofNat (48+n)≠48:=fun n h1 h2 e=>by
   have:=congrArg UInt8.toNat e;rw [B8 h1] at this;exact h2 (by simpa using this)
 rw [Lib.decDigits];by_cases h1:s<10
 · rw [dif_pos h1];exact ⟨[],_,rfl,key s h1 (by omega)⟩
 · rw [dif_neg h1];exact ⟨_,_,rfl,key _ (Nat.mod_lt _ (by decide)) h⟩
theorem strip_tens {s k:Nat} (h:s % 10≠0):Ai (Lib.decDigits (s * 10 ^ k))=Lib.decDigits s:=by
 obtain ⟨l,c,e,hc⟩:=dec_last h;rw [Gn (by omega),Ai,List.reverse_append,List.reverse_replicate,List.dropWhile_append_of_pos (by simp),e,List.reverse_append];have hc' : (c == 48)=false:=by simpa using hc
 simp [List.dropWhile,hc']
theorem C3 {s n:Nat} (h1:1<=n) (h2:10 ^ (n - 1)<=s) (h3:s<10 ^ n):Lib.nDigits s=n:=by
 obtain ⟨k,rfl⟩:∃k,n=k+1:=⟨n - 1,by omega⟩;rw [Nat.add_sub_cancel] at h2;clear h1;induction k generalizing s with
 | zero=>exact Lib.nDigits_small (by simpa using h3)
 | succ k ih=>
   rw [Nat.pow_succ] at h2 h3;have h4:0<10 ^ k:=Nat.pow_pos (by decide);rw [Lib.nDigits_big (by omega),ih (by omega) (by rw [Nat.pow_succ] at *;omega)]
theorem seek_digs {r:Nat} (h:0<r) (hr:r<9218868437227405312) :
   Lib.decDigits (Bb r 17 1).2.1=digL r/\(Bb r 17 1).2.2+((Bb r 17 1).1:Int)=Au r/\(Lib.decDigits (Bb r 17 1).2.1).length=(Bb r 17 1).1/\1<=(Bb r 17 1).1/\0<(Bb r 17 1).2.1:=by
 have he:=ends_all h hr
 unfold endsB at he
 obtain ⟨S,hS⟩:∃S,S=Bb r 17 1:=⟨_,rfl⟩
 rw [<-hS] at he ⊢
 clear hS
 obtain ⟨N,s,q⟩:=S
 simp only [Bool.and_eq_true,decide_eq_true_eq] at he
 obtain ⟨⟨⟨⟨⟨e1,e2⟩,e3⟩,e4⟩,e5⟩,e6⟩:=he
 have hN:=C3 e6 e4 e5
 unfold digL Au
 rw [if_neg (by omega),if_neg (by omega)]
 generalize (Ae r).1=d at *
 generalize (Ae r).2=p at *
 obtain ⟨k,hk⟩:∃k:Nat,(q - p).toNat=k:=⟨_,rfl⟩
 rw [hk] at e1
 subst e1
 have hs0:0<s:=by omega
 refine ⟨(strip_tens e3).symm,?_,by rw [Lib.decDigits_length,hN],e6,hs0⟩
 have h9:Lib.nDigits (s * 10 ^ k)=N+k:=by
   rw [<-Lib.decDigits_length,Gn hs0,List.length_append,List.length_replicate,Lib.decDigits_length,hN]
 show q+(N:Int)=_
 rw [h9];omega
theorem rv_mono {r s:Nat} (h:r<=s):rv r<=rv s:=by
 rcases Nat.eq_or_lt_of_le h with e | e
 · rw [e];exact Nat.le_refl _
 · exact Nat.le_of_lt (Du e)
theorem mid_val {r:Nat} (h:0<r):mid (r - 1)<=2 * rv r/\2 * rv r<=mid r:=by
 have h1:mid r=rv r+rv (r+1):=rfl;have h2:mid (r - 1)=rv (r - 1)+rv r:=by
   unfold mid;rw [Nat.sub_add_cancel h]
 have h3:rv (r - 1)<=rv r:=rv_mono (by omega);have h4:rv r<=rv (r+1):=rv_mono (by omega);omega
theorem read_side {r R d:Nat} {q:Int} (h:0<r) (hq:-400<=q) (hR:InI R (decA d q) (Ah q)) (hne:R≠r):R<r ↔ d * tT q<vT r:=by
 have hI:=(dec_T hq).1 hR;have hT:0<10 ^ tK:=Nat.pow_pos (by decide);obtain ⟨m0,m1⟩:=mid_val h;have k0:mid (r - 1) * 10 ^ tK<=vT r:=Nat.mul_le_mul_right _ m0;have k1:vT r<=mid r * 10 ^ tK:=Nat.mul_le_mul_right _ m1;have hlow:=hI.low;have hhigh:=hI.high;generalize d * tT q=a at *;constructor
 · intro hlt
   have h3:mid R * 10 ^ tK<=mid (r - 1) * 10 ^ tK:=Nat.mul_le_mul_right _ (Fw (by omega));by_cases he:R=r - 1
   · subst he
     rcases hhigh with h9 | ⟨h9,_⟩
     · omega
     · have h4:mid (r - 1) * 10 ^ tK<vT r:=by
         refine Nat.mul_lt_mul_of_pos_right ?_ hT;have h2:mid (r - 1)=rv (r - 1)+rv r:=by
           unfold mid;rw [Nat.sub_add_cancel h]
         have h3:rv (r - 1)<rv r:=Du (by omega);omega
       omega
   · have h4:mid R * 10 ^ tK<mid (r - 1) * 10 ^ tK:=Nat.mul_lt_mul_of_pos_right (mid_lt (by omega)) hT
     omega
 · intro hlt
   rcases Nat.lt_trichotomy R r with h9 | h9 | h9
   · exact h9
   · exact absurd h9 hne
   · exfalso
     have h3:mid r * 10 ^ tK<=mid (R - 1) * 10 ^ tK:=Nat.mul_le_mul_right _ (Fw (by omega));omega
theorem read_same {r R d:Nat} {q:Int} (hq:-400<=q) (hR:InI R (decA d q) (Ah q)):R=r ↔ Cx r d q=true:=by
 have hI:=(dec_T hq).1 hR;rw [Ei];exact ⟨fun e=>e ▸ hI,fun e=>hI.uniq (Nat.pow_pos (by decide)) e⟩
def vLeast:Nat:=vT 1
def vmax:Nat:=vT 9218868437227405311
def tA:Nat:=tT (-324)
def tZ:Nat:=tT 309
theorem v_bounds:tA<=vLeast/\2 * vmax<tZ:=by decide +kernel
theorem vT_le {a b:Nat} (h:a<=b):vT a<=vT b:=Nat.mul_le_mul_right _ (Nat.mul_le_mul_left _ (rv_mono h))
theorem tT_lt {p q:Int} (hp:-400<=p) (h:tT p<tT q):p<q:=by
 rcases Int.lt_or_le p q with h9 | h9
 · exact h9
 · exfalso
   have hk:=tK_is;have:tT q<=tT p:=Nat.mul_le_mul_right _ (Nat.pow_le_pow_right (by decide) (by omega));omega
theorem fix_place {r n:Nat} (h:0<r) (hr:r<9218868437227405312) (h1:1<=n) (h17:n<=17):-341<=(fixN r n).2/\(fixN r n).2<=308:=by
 obtain ⟨⟨f1,f2,f3,f4,_,_⟩,q0,q1⟩:=D9 h hr h1 h17;obtain ⟨b0,b1⟩:=v_bounds;have c0:vLeast<=vT r:=vT_le h;have c1:vT r<=vmax:=vT_le (by omega);generalize (fixN r n).1=d at *;generalize (fixN r n).2=q at *;have ht:=Ed q;have hP:0<10 ^ (n - 1):=Nat.pow_pos (by decide);have hP2:(10:Nat) ^ n<=10 ^ 17:=Nat.pow_le_pow_right (by decide) h17;have e1:(2 * d+1) * tT q=2 * (d * tT q)+tT q:=by rw [Nat.add_mul,Nat.one_mul,Nat.mul_assoc]
 have e2:2 * d * tT q=2 * (d * tT q):=Nat.mul_assoc _ _ _;have e3:tT q<=d * tT q:=Nat.le_mul_of_pos_left _ (by omega);have e4:(d+1) * tT q<=10 ^ 17 * tT q:=Nat.mul_le_mul_right _ (by omega);rw [Nat.add_mul,Nat.one_mul] at e4;have e5:tT (q+(17:Nat))=10 ^ 17 * tT q:=tT_add (by omega) 17;rw [e1] at f3;rw [e2] at f4;have k1:tT q<tZ:=by clear b0 c0 e5 e4;generalize tZ=z at *;generalize vmax=y at *;omega
 have k0:tA<tT (q+(17:Nat)):=by
   rw [e5];clear b1 c1 k1 e5;generalize tA=z at *;generalize vLeast=y at *;generalize 10 ^ 17 * tT q=x at *;omega
 have l1:q<309:=tT_lt (by omega) k1;have l0:-324<q+(17:Nat):=tT_lt (by omega) k0;omega
theorem dv_inj {c d:UInt8} (hc:isD c=true) (hd:isD d=true) (h:dv c=dv d):c=d:=by
 unfold isD at hc hd;simp only [Bool.and_eq_true,decide_eq_true_eq] at hc hd;unfold dv at h;apply UInt8.toNat_inj.1;omega
theorem digs_uniq:∀{L M:List UInt8},(∀c∈L,isD c=true)->(∀c∈M,isD c=true)->L.length=M.length->valD L=valD M->L=M
 | [],[],_,_,_,_=>rfl
 | [],_ :: _,_,_,h,_=>by simp at h
 | _ :: _,[],_,_,h,_=>by simp at h
 | c :: L,d :: M,hL,hM,hl,hv=>by
   have hl' : L.length=M.length:=by simpa using hl
   rw [Av,Av,hl'] at hv;have h1:=B4 (l:=L) (fun x hx=>hL x (List.mem_cons_of_mem _ hx));have h2:=B4 (l:=M) (fun x hx=>hM x (List.mem_cons_of_mem _ hx));rw [hl'] at h1;have hp:0<10 ^ M.length:=Nat.pow_pos (by decide);have e1:=congrArg (· / 10 ^ M.length) hv
   have e2:=congrArg (· % 10 ^ M.length) hv
   simp only [Nat.mul_comm (dv _),Nat.mul_add_div hp,Nat.mul_add_mod,Nat.div_eq_of_lt h1,Nat.div_eq_of_lt h2,Nat.mod_eq_of_lt h1,Nat.mod_eq_of_lt h2,Nat.add_zero] at e1 e2;rw [dv_inj (hL c (List.mem_cons_self ..)) (hM d (List.mem_cons_self ..)) e1,digs_uniq (fun x hx=>hL x (List.mem_cons_of_mem _ hx)) (fun x hx=>hM x (List.mem_cons_of_mem _ hx)) hl' e2]
theorem Gf {L:List UInt8} {v n:Nat} (hL:∀c∈L,isD c=true) (hn:1<=n) (hl:L.length=n) (hv:valD L=v) (h0:10 ^ (n - 1)<=v) (h1:v<10 ^ n):L=Lib.decDigits v:=by
 refine digs_uniq hL (Br v) ?_ (by rw [hv,B1]);rw [hl,Lib.decDigits_length,C3 hn h0 h1]
theorem D1:∀k,valD (List.replicate k 57)+1=10 ^ k
 | 0=>rfl
 | k+1=>by
   rw [List.replicate_succ,Av,List.length_replicate,Nat.add_assoc,D1 k,Nat.pow_succ,show dv 57=9 by decide];omega
theorem isD_rep (k:Nat) {c:UInt8} (h:isD c=true):∀b∈List.replicate k c,isD b=true:=fun b hb=>by rw [List.eq_of_mem_replicate hb];exact h
theorem beside_mid {A:List UInt8} {c:UInt8} {k d n:Nat} {q:Int} {up:Bool} (hd:Lib.decDigits d=A++c :: List.replicate k (if up then 57 else 48)) (hn:1<=n) (h0:10 ^ (n - 1)<=d) (h1:d<10 ^ n)
   (hc:c≠(if up then 57 else 48)) (hA:up=false->A=[]->c≠49) :
   A++(if up then c+1 else c - 1) :: List.replicate k (if up then 48 else 57)=Lib.decDigits (Af n d q up).1/\(Af n d q up).2=q:=by
 have hdig:∀b∈A++c :: List.replicate k (if up then 57 else 48),isD b=true:=by rw [<-hd];exact Br d
 have hcd:isD c=true:=hdig c (by simp)
 have hlen:A.length+(k+1)=n:=by
   have:=congrArg List.length hd;rw [Lib.decDigits_length,C3 hn h0 h1,List.length_append,List.length_cons,List.length_replicate] at this;exact this.symm
 have hval:d=valD A * 10 ^ (k+1)+(dv c * 10 ^ k+valD (List.replicate k (if up then 57 else 48))):=by
   have:=congrArg valD hd;rw [B1,Bh,Av,List.length_cons,List.length_replicate] at this;exact this
 have hcn:48<=c.toNat/\c.toNat<=57:=by
   unfold isD at hcd;simpa using hcd
 have hb:=E9 (q:=q) (up:=up) hn h0 h1
 have hAd:∀b∈A,isD b=true:=fun b hb=>hdig b (List.mem_append_left _ hb)
 cases up
 · have hc48:c.toNat≠48:=fun e=>hc (by show c=48;exact UInt8.toNat_inj.1 e)
   have hc1:(c - 1).toNat=c.toNat - 1:=by rw [UInt8.toNat_sub_of_le _ _ (by show 1<=c.toNat;omega)];rfl
   have hc1d:isD (c - 1)=true:=by unfold isD;rw [hc1];simp;omega
   have hdv:dv (c - 1)+1=dv c:=by unfold dv;rw [hc1];omega
   have hz:valD (List.replicate k 48)=0:=Ck fun b hb=>List.eq_of_mem_replicate hb;have h9:=D1 k;simp only [Bool.false_eq_true,if_false] at hval hd hb ⊢;rw [hz] at hval;have hne:d≠10 ^ (n - 1):=by
     intro e;have hk:n - 1=A.length+k:=by omega
     cases A with
     | nil=>
       have hne49:=hA rfl rfl;have:dv c≠1:=fun e9=>hne49 (by
         apply UInt8.toNat_inj.1;unfold dv at e9;show c.toNat=49;omega)
       rw [e,hk,List.length_nil,Nat.zero_add,show valD []=0 from rfl,Nat.zero_mul,Nat.zero_add,Nat.add_zero] at hval;have hp:0<10 ^ k:=Nat.pow_pos (by decide);have:dv c=1:=by
         refine Nat.eq_of_mul_eq_mul_right hp ?_;rw [<-hval,Nat.one_mul]
       contradiction
     | cons a A=>
       have h3:10 ^ (A.length+1)<=valD (a :: A) * 10:=by
         have ha:isD a=true:=hAd a (List.mem_cons_self ..);have ha0:dv a≠0:=by
           obtain ⟨c', l', e', hc'⟩:=D5 (u:=d) (Nat.lt_of_lt_of_le (Nat.pow_pos (by decide)) h0);rw [e', List.cons_append] at hd;rw [<-(List.cons.inj hd).1];intro e9;apply hc';apply UInt8.toNat_inj.1;have hh:=Br d c' (by rw [e'];exact List.mem_cons_self ..);unfold isD at hh;simp only [Bool.and_eq_true,decide_eq_true_eq] at hh;unfold dv at e9;show c'.toNat=48;omega
         rw [Av,Nat.pow_succ];refine Nat.mul_le_mul_right _ ?_;have:1 * 10 ^ A.length<=dv a * 10 ^ A.length:=Nat.mul_le_mul_right _ (by omega);omega
       have h4:10 ^ (A.length+1) * 10 ^ k<=valD (a :: A) * 10 * 10 ^ k:=Nat.mul_le_mul_right _ h3;rw [<-Nat.pow_add] at h4;rw [e,hk,List.length_cons,Nat.add_zero,Nat.pow_succ 10 k,Nat.mul_comm (10 ^ k) 10,<-Nat.mul_assoc] at hval;have h5:0<dv c * 10 ^ k:=Nat.mul_pos (by unfold dv;omega) (Nat.pow_pos (by decide));omega
   have hbs:Af n d q false=(d - 1,q):=by
     unfold Af;rw [if_neg (by decide),if_neg hne]
   rw [hbs] at hb ⊢;refine ⟨Gf (n:=n) ?_ hn (by simp;omega) ?_ hb.1 hb.2.1,rfl⟩
   · intro b hb
     rcases List.mem_append.1 hb with hb | hb
     · exact hAd b hb
     · rcases List.mem_cons.1 hb with rfl | hb
       · exact hc1d
       · exact isD_rep k (by decide) b hb
   · rw [Bh,Av,List.length_cons,List.length_replicate]
     have e3:dv c * 10 ^ k=dv (c - 1) * 10 ^ k+10 ^ k:=by rw [<-hdv,Nat.add_mul,Nat.one_mul]
     show _=d - 1;omega
 · have hc57:c.toNat≠57:=fun e=>hc (by show c=57;exact UInt8.toNat_inj.1 e)
   have hc1:(c+1).toNat=c.toNat+1:=by rw [UInt8.toNat_add];show (c.toNat+1) % 256=_;omega
   have hc1d:isD (c+1)=true:=by unfold isD;rw [hc1];simp;omega
   have hdv:dv (c+1)=dv c+1:=by unfold dv;rw [hc1];omega
   have hz:valD (List.replicate k 48)=0:=Ck fun b hb=>List.eq_of_mem_replicate hb;have h9:=D1 k;simp only [if_true] at hval hd hb ⊢;have hvn:valD (A++(c+1) :: List.replicate k 48)=d+1:=by
     rw [Bh,Av,List.length_cons,List.length_replicate,hz,hdv,Nat.add_mul,Nat.one_mul];omega
   have hdn:∀b∈A++(c+1) :: List.replicate k 48,isD b=true:=by
     intro b hb;rcases List.mem_append.1 hb with hb | hb
     · exact hAd b hb
     · rcases List.mem_cons.1 hb with rfl | hb
       · exact hc1d
       · exact isD_rep k (by decide) b hb
   have hlt:=B4 hdn;have hl2:(A++(c+1) :: List.replicate k 48).length=n:=by simp;omega
   rw [hvn,hl2] at hlt;have hbs:Af n d q true=(d+1,q):=by
     unfold Af;rw [if_pos rfl,if_neg (by omega)]
   rw [hbs] at hb ⊢;exact ⟨Gf (n:=n) hdn hn hl2 hvn hb.1 hb.2.1,rfl⟩
theorem beside_top {n d:Nat} {q:Int} (hd:Lib.decDigits d=List.replicate n 57) (hn:1<=n):49 :: List.replicate (n - 1) 48=Lib.decDigits (Af n d q true).1/\(Af n d q true).2=q+1:=by
 have h9:=D1 n;have hv:=congrArg valD hd;rw [B1] at hv;have hbs:Af n d q true=(10 ^ (n - 1),q+1):=by
   unfold Af;rw [if_pos rfl,if_pos (by omega)]
 rw [hbs];have hz:valD (List.replicate (n - 1) 48)=0:=Ck fun b hb=>List.eq_of_mem_replicate hb;refine ⟨Gf (n:=n) ?_ hn (by simp;omega) ?_ (Nat.le_refl _) (Nat.pow_lt_pow_right (by decide) (by omega)),rfl⟩
 · intro b hb
   rcases List.mem_cons.1 hb with rfl | hb
   · decide
   · exact isD_rep _ (by decide) b hb
 · rw [Av,List.length_replicate,hz,show dv 49=1 by decide];omega
theorem beside_low {n d:Nat} {q:Int} (hd:Lib.decDigits d=49 :: List.replicate (n - 1) 48) (hn:1<=n):57 :: List.replicate (n - 1) 57=Lib.decDigits (Af n d q false).1/\(Af n d q false).2=q - 1:=by
 have h9:=D1 n;have hv:=congrArg valD hd;have hz:valD (List.replicate (n - 1) 48)=0:=Ck fun b hb=>List.eq_of_mem_replicate hb;rw [B1,Av,List.length_replicate,hz,show dv 49=1 by decide,Nat.one_mul,Nat.add_zero] at hv;have hbs:Af n d q false=(10 ^ n - 1,q - 1):=by
   unfold Af;rw [if_neg (by decide),if_pos hv]
 rw [hbs];have hP:(10:Nat) ^ n=10 * 10 ^ (n - 1):=by
   obtain ⟨k,rfl⟩:∃k,n=k+1:=⟨n - 1,by omega⟩;rw [Nat.pow_succ,Nat.mul_comm];simp
 have hPp:0<(10:Nat) ^ (n - 1):=Nat.pow_pos (by decide);have he:(57:UInt8) :: List.replicate (n - 1) 57=List.replicate n 57:=by
   rw [<-List.replicate_succ,show n - 1+1=n by omega]
 rw [he];refine ⟨Gf (n:=n) (isD_rep _ (by decide)) hn (by simp) ?_ ?_ ?_,rfl⟩
 · show _=10 ^ n - 1;omega
 · show 10 ^ (n - 1)<=10 ^ n - 1;omega
 · show 10 ^ n - 1<10 ^ n;omega
theorem effP_digs {n d:Nat} {dp:Int} (hn:1<=n) (h0:10 ^ (n - 1)<=d) (h1:d<10 ^ n) :
   effP false (Ai (Lib.decDigits d)) dp (n - 1)=(Lib.decDigits d).take 1++((if 1<n then 46 :: (Lib.decDigits d).drop 1 else [])++101 :: expL (dp - 1)):=by
 obtain ⟨j,hj⟩:=Cr (Lib.decDigits d)
 have hlen:=congrArg List.length hj
 rw [List.length_append,List.length_replicate,Lib.decDigits_length,C3 hn h0 h1] at hlen
 have hne:Ai (Lib.decDigits d)≠[]:=fun e=>by
   have:=Eh e;rw [B1] at this;have:0<10 ^ (n - 1):=Nat.pow_pos (by decide);omega
 rw [hj]
 have hzz:Ai (Ai (Lib.decDigits d)++List.replicate j 48)=Ai (Lib.decDigits d):=by rw [<-hj]
 rw [hzz]
 generalize Ai (Lib.decDigits d)=D at *
 cases D with
 | nil=>exact absurd rfl hne
 | cons c T=>
   unfold effP;rw [if_neg (by simp)];simp only [List.length_cons] at hlen;unfold midL;by_cases h2:1<n
   · rw [if_pos (by omega:0<n - 1),if_pos h2]
     simp only [List.length_cons,List.tail_cons,Nat.add_sub_cancel,At,List.headD_cons,List.cons_append,List.take_succ_cons,List.take_zero,List.drop_succ_cons,List.drop_zero];rw [show n - 1 - T.length=j by omega];simp
   · rw [if_neg (by omega:¬0<n - 1),if_neg h2]
     simp [At]
def expV (l:List UInt8):Nat:=l.foldl (fun a c=>10 * a+dv c) 0
def expvTab (n:Nat):Bool:=decide (expV (expL (n:Int)).tail=n) && (expL (n:Int)).tail.all isD && decide ((expL (n:Int)).tail.length<=3)
theorem expv_tab:allN 1000 expvTab=true:=by decide +kernel
theorem expv_spec (x:Int) (h:x.natAbs<1000):∃E,expL x=(if x<0 then 45 else 43) :: E/\(∀c∈E,isD c=true)/\expV E=x.natAbs/\E.length<=3:=by
 have h1:=Bu expv_tab x.natAbs h;unfold expvTab at h1;simp only [Bool.and_eq_true,decide_eq_true_eq,List.all_eq_true] at h1;refine ⟨(expL (x.natAbs:Int)).tail,?_,h1.1.2,h1.1.1,h1.2⟩;unfold expL;rw [List.tail_cons,Int.natAbs_natCast]
end Go.Proofs.YteoalcmhdoopnaaGreatDoor
namespace Go.Proofs.YteoalcmhdoopnaaGreatDoor
open Go.RowKit
theorem unminN_any {x:Nat} (h1:1<=x) (h:x<4611686018427387904) (w:World):Calls Tryz.prog 140 #[.int .u64 (x:Int)] w fun e w' => e=.returned (.int .u64 ((4 * x - 2:Nat):Int))/\w' = w:=by
 obtain ⟨y,hy⟩:∃y:Nat,y=4 * x - 2:=⟨_,rfl⟩;have hx4:(x:Int) * 4 - 2=(y:Int):=by omega
 rw [<-hy]
 go_enter Tryz.func140,Tryz.ntmps140
 go_wp2;go_ret;exact ⟨by rw [hy];rfl,rfl⟩
theorem boolU_any (b:Bool) (w:World):Calls Tryz.prog 155 #[.bool b] w fun e w' => e=.returned (.int .u64 (b.toNat:Int))/\Below w.heap.size w w' := by
 cases b
 · go_enter Tryz.func155,Tryz.ntmps155
   go_wp2;go_ret;exact ⟨rfl,Below.refl _ _⟩
 · go_enter Tryz.func155,Tryz.ntmps155
   go_wp2;go_ret;exact ⟨rfl,Below.refl _ _⟩
set_option maxRecDepth 100000 in
set_option maxHeartbeats 1600000 in
theorem div10_any (u c:Nat) (h:u<18446744073709551000) (hc:divU u=c) (w:World):Calls Tryz.prog 141 #[.int .u64 (u:Int),.int .u64 10] w fun e w' => e=.returned (.int .u64 (c:Int))/\Below w.heap.size w w' := by
 obtain ⟨q,hq⟩:∃q:Nat,q=u / 10:=⟨_,rfl⟩;obtain ⟨r,hr⟩:∃r:Nat,r=u % 10:=⟨_,rfl⟩;obtain ⟨b,hb⟩:∃b:Nat,b=u % 2:=⟨_,rfl⟩;have hdv:(u:Int).tdiv 10=(q:Int):=by rw [Int.tdiv_eq_ediv_of_nonneg (by omega)];omega
 have hdv2:(u:Int) / 10=(q:Int):=by omega
 have hmd:(u:Int).tmod 10=(r:Int):=by rw [Int.tmod_eq_emod_of_nonneg (by omega)];omega
 have hmd2:(u:Int) % 10=(r:Int):=by omega
 have hand:bits .and .u64 (u:Int) 1=(b:Int):=by
   have:=A7 (x:=u) (y:=1) (by omega) (by omega);rw [and_1,<-hb] at this;exact this
 obtain ⟨v,hv⟩:∃v:Nat,v=A5 q (decide (b=1)):=⟨_,rfl⟩;have hor:bits .or .u64 (q:Int) (b:Int)=(v:Int):=by
   have:=Aw (x:=q) (y:=b) (by omega) (by omega);have e:q ||| b=v:=by
     have h2:=stick_or q u;rw [<-hb] at h2;rw [h2,hv]
   rw [e] at this;exact this
 obtain ⟨t,ht⟩:∃t:Bool,t=((r:Int) != 0):=⟨_,rfl⟩;have htd:t=decide (u % 10≠0):=by
   rw [ht,hr];by_cases h0:u % 10=0
   · simp [h0]
   · have:((u % 10:Nat):Int)≠0:=by omega
     simp [h0];omega
 have hor2:bits .or .u64 (v:Int) (t.toNat:Int)=(c:Int):=by
   have h9:v<=q+1:=by rw [hv];exact Dw _ _
   have hq9:q<1844674407370955100:=by omega
   have:=Aw (x:=v) (y:=t.toNat) (by omega) (by cases t<;>decide);have e:v ||| t.toNat=c:=by
     rw [Fx,hv,htd,<-hc];unfold divU;rw [hq,hb];rcases Nat.mod_two_eq_zero_or_one u with h1 | h1
     · rw [h1];simp [A5]
     · have h2:u % 10≠0:=by omega
       rw [h1];simp [A5,h2];omega
   rw [e] at this;exact this
 have hbc:=boolU_any t;clear htd hv;replace hbc:=Hd hbc;have ht' := Hd ht;clear ht hr hq hb
 go_enter Tryz.func141,Tryz.ntmps141
 go_upto_region 2 with fail
 refine Aq (by kernel_rfl) (by kernel_rfl) ?_;repeat (go_big_quiet_step ((go_at_call 155;rw [<-ht'.out];(with_reducible exact Ft (hbc.out _)))))
 refine wpQuiet_nil ?_;rintro _ ⟨xq,rfl⟩;have hS:=As w xq;go_wp2_with fail
 go_ret;exact ⟨rfl,hS⟩
theorem fixU_lt {r n:Nat} (h:0<r) (hr:r<9218868437227405312) (h1:1<=n) (h17:n<=17):fixU r n<2000000000000000000/\1<=xM r * hiT (fixP r n) / 18446744073709551616:=by
 obtain ⟨p0,p1,s0,s1⟩:=fixP_spec h hr h1 h17;obtain ⟨_,⟨m0,m1,m9⟩,_⟩:=Fn h;obtain ⟨hh0,hh⟩:=hi_lt p0 p1;have hl1:xM r * hiT (fixP r n) / 18446744073709551616<18446744073709551616:=by
   have:xM r * hiT (fixP r n)<=18446744073709551615 * 18446744073709551615:=Nat.mul_le_mul (by omega) (by omega);omega
 have hlow:1<=xM r * hiT (fixP r n) / 18446744073709551616:=by
   have:4611686018427387904 * 9223372036854775808<=xM r * hiT (fixP r n):=Nat.mul_le_mul m0 hh0;omega
 refine ⟨?_,hlow⟩;have hp:16<=2 ^ (C9 r n).toNat:=by
   have:2 ^ 4<=2 ^ (C9 r n).toNat:=Nat.pow_le_pow_right (by decide) (by omega);exact this
 have key:∀H:Nat,H<18446744073709551616->H / 2 ^ (C9 r n).toNat<=1152921504606846976:=fun H hH=>by
   have:H / 2 ^ (C9 r n).toNat<=H / 16:=Nat.div_le_div_left hp (by decide);omega
 have fin:∀H b,H<18446744073709551616->A5 (H / 2 ^ (C9 r n).toNat) b<2000000000000000000:=fun H b hH=>by
   have:=key H hH;have:=Dw (H / 2 ^ (C9 r n).toNat) b;omega
 unfold fixU Bg;split
 · exact fin _ _ hl1
 · split
   · exact fin _ _ (by omega)
   · exact fin _ _ hl1
set_option maxRecDepth 100000 in
set_option maxHeartbeats 6400000 in
theorem fixed_any {r n:Nat} (h:0<r) (hr:r<9218868437227405312) (h1:1<=n) (h17:n<=17) (prec:Int) {w:World} (hF:Flo w) :
   Calls Tryz.prog 108 #[.int .u64 (xM r:Int),.int .i64 ((rK r:Int) - 1074 - fS r),.int .i64 (n:Int),.int .i64 prec,.int .u8 101] w
     fun x w' => x=.returned (.tuple #[.int .u64 ((fixN r n).1:Int),.int .i64 (fixN r n).2])/\Below w.heap.size w w' := by
 obtain ⟨p0,p1,s0,s1⟩:=fixP_spec h hr h1 h17
 obtain ⟨f0,f1,f2,m0,m1⟩:=Bf h
 have hK:=Fh hr
 obtain ⟨hu9,hh1⟩:=fixU_lt h hr h1 h17
 have hX9:xM r<18446744073709551616:=by have:=Nat.two_pow_pos (fS r);omega
 have hhl:=(hi_lt p0 p1).2
 have hll:=lo_lt (fixP r n)
 obtain ⟨e,he⟩:∃e:Int,e=(rK r:Int) - 1074 - fS r:=⟨_,rfl⟩
 obtain ⟨p,hp⟩:∃p:Int,p=fixP r n:=⟨_,rfl⟩
 obtain ⟨l,hl⟩:∃l:Int,l=lp10 p:=⟨_,rfl⟩
 obtain ⟨l2,hl2⟩:∃l:Int,l=Bp (e+63):=⟨_,rfl⟩
 obtain ⟨s,hs⟩:∃s:Nat,C9 r n=s:=⟨(C9 r n).toNat,by omega⟩
 have hl1:-3000<=l/\l<=3000:=by rw [hl];unfold lp10;omega
 have hpl:(n:Int) - 1 - l2=p:=by
   rw [hp,hl2,he];unfold fixP fixX;rw [show (rK r:Int) - 1074 - fS r+63=(rK r:Int) - 1011 - fS r by omega]
 have hl29:-1000<=l2/\l2<=1000:=by omega
 have hsv:-(e+l+3)=(s:Int):=by
   have:C9 r n=fS r+1071 - lp10 (fixP r n) - rK r:=rfl;rw [<-hp,<-hl] at this;omega
 have hN:fixN r n=if 4 * 10 ^ n - 2<=fixU r n then (rndU (divU (fixU r n)),1 - fixP r n) else (rndU (fixU r n),-fixP r n):=rfl
 have hU:fixU r n=Bg 18446744073709551616 (xM r) (hiT (fixP r n)) (loT (fixP r n)) (C9 r n).toNat:=rfl
 obtain ⟨u,hu⟩:∃u,u=fixU r n:=⟨_,rfl⟩
 obtain ⟨X,hX⟩:∃X,X=xM r:=⟨_,rfl⟩
 rw [hs,Int.toNat_natCast,<-hu,<-hp,<-hX] at hU
 rw [<-hu,<-hp] at hN
 rw [<-hu] at hu9
 rw [<-hp,<-hX] at hh1
 rw [<-hp] at hhl hll p0 p1
 rw [<-hX] at hX9
 rw [<-he,<-hX]
 have he9:-1200<=e/\e<=1000:=by omega
 have c1:∀w,Calls Tryz.prog 96 #[.int .i64 (e+63)] w fun e w' => e=.returned (.int .i64 l2)/\w' = w:=fun w=>by rw [hl2];exact log10P_any (e+63) (by omega) (by omega) w
 have c2:∀w,Calls Tryz.prog 134 #[.int .i64 p] w fun e w' => e=.returned (.int .i64 l)/\w' = w:=fun w=>by rw [hl];exact log2P_any p (by omega) (by omega) w
 obtain ⟨T,hT⟩:∃T:Nat,T=10 ^ n:=⟨_,rfl⟩
 have hT1:1<=T:=by rw [hT];exact Nat.pow_pos (by decide)
 have hT9:T<=100000000000000000:=by
   have:(10:Nat) ^ n<=10 ^ 17:=Nat.pow_le_pow_right (by decide) h17;have:(10:Nat) ^ 17=100000000000000000:=by decide
   omega
 rw [<-hT] at hN
 have c3:=fun w=>unminN_any hT1 (by omega) w
 obtain ⟨T4,hT4⟩:∃t:Nat,t=4 * T - 2:=⟨_,rfl⟩
 rw [<-hT4] at hN c3
 have hP:=hF.pows
 obtain ⟨w1,hw1⟩:∃w1,w1=w.alloc (.cells #[.int .u64 0,.int .u64 0,.int .i64 0] 181):=⟨_,rfl⟩
 have hb1:Below w.heap.size w w1:=by rw [hw1];exact (Below.refl _ _).alloc (Nat.le_refl _) _
 have hP1:Pows w1:=hP.below hb1 hP.lt
 have hblk:Blk w1 w.heap.size:=by rw [hw1];exact Blk.new _ _ _
 have hc0:w1.cell? ⟨w.heap.size,0,none⟩=some (.int .u64 0):=by rw [hw1,World.cell?_alloc_new];rfl
 have hc1:w1.cell? ⟨w.heap.size,1,none⟩=some (.int .u64 0):=by rw [hw1,World.cell?_alloc_new];rfl
 have hc2:w1.cell? ⟨w.heap.size,2,none⟩=some (.int .i64 0):=by rw [hw1,World.cell?_alloc_new];rfl
 have hbg:w.heap.size≠13:=by have:=hP.lt;omega
 have hpre:=Bv (e:=e) (p:=p) (l:=l) hblk hc0 hc1 hc2 hP1 hbg (by omega) (by omega) (by omega) (by omega) hl1.1 hl1.2
 rw [hsv] at hpre
 obtain ⟨w2,hw2⟩:∃w2,w2=((w1.setCell ⟨w.heap.size,0,none⟩ (.int .u64 (hiT p:Int))).setCell ⟨w.heap.size,1,none⟩ (.int .u64 (loT p:Int))).setCell ⟨w.heap.size,2,none⟩ (.int .i64 (s:Int)):=⟨_,rfl⟩
 rw [<-hw2] at hpre
 have hb2:Below w.heap.size w w2:=by
   rw [hw2];refine hb1.trans ?_;exact ((((Fr.refl (fun k=>k=w.heap.size) w1).setCell (fun _=>rfl) _).setCell (fun _=>rfl) _).setCell (fun _=>rfl) _).below hb1.size (fun i hi e=>by omega)
 have d0:w2.cell? ⟨w.heap.size,0,none⟩=some (.int .u64 (hiT p:Int)):=by rw [hw2,Ab (by simp),Ab (by simp)];exact Ar hc0
 have d1:w2.cell? ⟨w.heap.size,1,none⟩=some (.int .u64 (loT p:Int)):=by rw [hw2,Ab (by simp)];exact Ar (by rw [Ab (by simp)];exact hc1)
 have d2:w2.cell? ⟨w.heap.size,2,none⟩=some (.int .i64 (s:Int)):=by rw [hw2];exact Ar (by rw [Ab (by simp),Ab (by simp)];exact hc2)
 have hus:=En (w:=w2) (b:=w.heap.size) (x:=X) (hi:=hiT p) (lo:=loT p) (s:=s) hX9 hhl hll (by omega) hh1 d0 d1 d2
 rw [<-hU] at hus
 have hTab:∀w', Below w.heap.size w w' -> w'.cell? ⟨3,n,none⟩=some (.int .u64 (T:Int)):=fun w' hb=>by
   have h9 : Lib.TabIs Tryz.prog w' "internal/strconv.uint64pow10" .u64 Lib.pow10Tab := Go.Joins.tab_stays A8 hF.tens hb (Nat.le_refl _);have:=h9.cell A8 n (by rw [Lib.pow10Tab_length];omega);rw [Lib.pow10Tab_at n (by omega),<-hT] at this;exact this
 replace c1:=Hd c1
 replace c2:=Hd c2
 replace c3:=Hd c3
 replace hpre:=Hd hpre
 replace hus:=Hd hus
 replace hw1e:=Hd hw1
 replace hw2:=Hd hw2
 replace hb2:=Hd hb2
 replace hTab:=Hd hTab
 replace hX:=Hd hX
 replace hu:=Hd hu
 replace hU:=Hd hU
 replace hT:=Hd hT
 replace hT4' := Hd hT4
 replace he:=Hd he
 replace hp:=Hd hp
 replace hl:=Hd hl
 replace hl2:=Hd hl2
 replace hh1:=Hd hh1
 have hT49:T4<18446744073709551000:=by omega
 clear hP hP1 hblk hc0 hc1 hc2 hb1 hs hsv hw1 hT4 hF f0 f1 f2 m0 m1 hhl hll s0 s1
 by_cases hbig:T4<=u
 · rw [if_pos hbig] at hN
   have hbi:(T4:Int)<=(u:Int):=by omega
   obtain ⟨c,hc⟩:∃c,divU u=c:=⟨_,rfl⟩;have hc9:c<2000000000000000002:=by rw [<-hc];unfold divU;have:=Dw (u / 10) (decide (u % 10≠0));omega
   obtain ⟨m,hm⟩:∃m,rndU c=m:=⟨_,rfl⟩;rw [hc,hm] at hN;have c4:=fun w=>div10_any u c (by omega) hc w;have c5:=fun w=>Cy c m (by omega) hm w;replace hN:=Hd hN;replace c4:=Hd c4;replace c5:=Hd c5;clear hc hm hbig
   go_enter Tryz.func108,Tryz.ntmps108
   go_wp2_with fail
   refine (c1.out _).mono ?_;rintro e w' ⟨rfl,hww⟩;obtain rfl:=hww.symm;clear hww;go_wp2_with fail
   refine (c2.out _).mono ?_;rintro e w' ⟨rfl,hww⟩;obtain rfl:=hww.symm;clear hww;go_wp2_with fail
   rw [<-hw1e.out];refine hpre.out.mono ?_;rintro e w' ⟨rfl,hww⟩;obtain rfl:=hww.symm;clear hww;go_wp2_with fail
   refine hus.out.mono ?_;rintro e w3 ⟨rfl,hb3⟩;have hb03:=hb2.out.trans (hb3.mono hb2.out.size);have ht3:=hTab.out w3 hb03;replace hb03:=Hd hb03;clear hb3;go_wp2_with fail
   refine (c3.out _).mono ?_;rintro e w' ⟨rfl,hww⟩;obtain rfl:=hww.symm;clear hww;go_wp2_with fail
   refine (c4.out _).mono ?_;rintro e w4 ⟨rfl,hb4⟩;have hb04:=hb03.out.trans (hb4.mono hb03.out.size);replace hb04:=Hd hb04;clear hb4;go_wp2_with fail
   refine (c5.out _).mono ?_;rintro e w' ⟨rfl,hww⟩;obtain rfl:=hww.symm;clear hww;go_wp2
   go_ret2
   refine ⟨?_,hb04.out⟩;rw [hN.out,show 1 - p=-(p - 1) by omega];rfl
 · rw [if_neg hbig] at hN
   have hbi:decide ((T4:Int)<=(u:Int))=false:=decide_eq_false (by omega);have hbi2:¬(T4:Int)<=(u:Int):=by omega
   obtain ⟨m,hm⟩:∃m,rndU u=m:=⟨_,rfl⟩;rw [hm] at hN;have c5:=fun w=>Cy u m (by omega) hm w;replace hN:=Hd hN;replace c5:=Hd c5;clear hm hbig
   go_enter Tryz.func108,Tryz.ntmps108
   go_wp2_with fail
   refine (c1.out _).mono ?_;rintro e w' ⟨rfl,hww⟩;obtain rfl:=hww.symm;clear hww;go_wp2_with fail
   refine (c2.out _).mono ?_;rintro e w' ⟨rfl,hww⟩;obtain rfl:=hww.symm;clear hww;go_wp2_with fail
   rw [<-hw1e.out];refine hpre.out.mono ?_;rintro e w' ⟨rfl,hww⟩;obtain rfl:=hww.symm;clear hww;go_wp2_with fail
   refine hus.out.mono ?_;rintro e w3 ⟨rfl,hb3⟩;have hb03:=hb2.out.trans (hb3.mono hb2.out.size);have ht3:=hTab.out w3 hb03;replace hb03:=Hd hb03;clear hb3;go_wp2_with fail
   refine (c3.out _).mono ?_;rintro e w' ⟨rfl,hww⟩;obtain rfl:=hww.symm;clear hww;go_wp2_with fail
   refine (c5.out _).mono ?_;rintro e w' ⟨rfl,hww⟩;obtain rfl:=hww.symm;clear hww;go_wp2
   go_ret2
   refine ⟨?_,hb03.out⟩;rw [hN.out];rfl
end Go.Proofs.YteoalcmhdoopnaaGreatDoor
