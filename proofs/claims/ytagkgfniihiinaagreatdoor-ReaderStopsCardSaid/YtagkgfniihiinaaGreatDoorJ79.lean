/- The texts of floats, as bytes. -/
import Derived.Test.YtagkgfniihiinaaGreatDoorJ83
import Derived.Lib.ItoaNum
set_option linter.all false
namespace Go.Proofs.YtagkgfniihiinaaGreatDoor
def dg8 (n:Nat):UInt8:=UInt8.ofNat (48+n)
def expL (x:Int):List UInt8:=
 (if x<0 then 45 else 43) :: (if x.natAbs<10 then [48,dg8 x.natAbs] else if x.natAbs<100 then [dg8 (x.natAbs / 10),dg8 (x.natAbs % 10)] else [dg8 (x.natAbs / 100),dg8 (x.natAbs / 10 % 10),dg8 (x.natAbs % 10)])
def A7 (neg:Bool):List UInt8:=if neg then [45] else []
def effE (neg:Bool) (D:List UInt8) (dp:Int):List UInt8:=
 A7 neg++[D.headD 48]++(if 1<D.length then 46 :: D.tail else [])++[101]++expL (if D=[] then 0 else dp - 1)
def effF (neg:Bool) (D:List UInt8) (dp:Int):List UInt8:=
 A7 neg++(if 0<dp then D.take dp.toNat++List.replicate (dp.toNat - D.length) 48 else [48]) ++
  (if dp<D.length then 46 :: (List.replicate (-dp).toNat 48++D.drop dp.toNat) else [])
def Aw (l:List UInt8):List UInt8:=(l.reverse.dropWhile (· == 48)).reverse
def digL (r:Nat):List UInt8:=if r=0 then [] else Aw (Lib.decDigits (A5 r).1)
def Br (r:Nat):Int:=if r=0 then 0 else (Lib.nDigits (A5 r).1:Int)+(A5 r).2
def Bs (b:Nat):List UInt8:=
 if nanF b then [110,97,110]
 else if b % 9223372036854775808=9218868437227405312 then A7 (decide (9223372036854775808<=b))++[105,110,102]
 else
  let D:=digL (b % 9223372036854775808)
  let dp:=Br (b % 9223372036854775808)
  let x:=if D=[] then 0 else dp - 1
  if x < -4\/21<=x then effE (decide (9223372036854775808<=b)) D dp else effF (decide (9223372036854775808<=b)) D dp
def midL (l:List UInt8) (prec:Nat):List UInt8:=if 0<prec then 46 :: (l.tail++List.replicate (prec - (l.length - 1)) 48) else []
theorem midL_pos {l:List UInt8} {prec:Nat} (h:0<prec):midL l prec=46 :: (l.tail++List.replicate (prec - (l.length - 1)) 48):=if_pos h
theorem midL_neg {l:List UInt8} {prec:Nat} (h:¬0<prec):midL l prec=[]:=if_neg h
def effP (neg:Bool) (D:List UInt8) (dp:Int) (prec:Nat):List UInt8:=
 A7 neg++[D.headD 48]++midL D prec++[101]++expL (if D.length=0 then 0 else dp - 1)
theorem effP_short (neg:Bool) (D:List UInt8) (dp:Int):effP neg D dp (D.length - 1)=effE neg D dp:=by
 unfold effP effE midL;have e:(D.length=0)=(D=[]):=by rw [List.length_eq_zero_iff]
 simp only [Nat.sub_self,List.replicate_zero,List.append_nil,e];by_cases h:1<D.length
 ·rw [if_pos h,if_pos (by omega)]
 ·rw [if_neg h,if_neg (by omega)]
theorem expL_len (x:Int):3<=(expL x).length/\(expL x).length<=4:=by
 have a:∀(b:UInt8) (l:List UInt8),2<=l.length/\l.length<=3->3<=(b :: l).length/\(b :: l).length<=4:=fun b l h=>by rw [List.length_cons];omega
 unfold expL;refine a _ _ ?_;split
 ·exact ⟨Nat.le_refl _,by simp⟩
 ·split<;>simp
end Go.Proofs.YtagkgfniihiinaaGreatDoor
namespace Go.Proofs.YtagkgfniihiinaaGreatDoor
open Ieee
theorem cut_spec (neg:Bool) (n drop:Nat):2 * Toward.even.cut neg n drop * 2 ^ drop<=2 * n+2 ^ drop/\2 * n<=(2 * Toward.even.cut neg n drop+1) * 2 ^ drop /\
  (2 * Toward.even.cut neg n drop * 2 ^ drop=2 * n+2 ^ drop\/2 * n=(2 * Toward.even.cut neg n drop+1) * 2 ^ drop->Toward.even.cut neg n drop % 2=0):=by
 unfold Toward.cut;simp only [Nat.shiftLeft_eq,Nat.one_mul];by_cases h:drop<=n.log2+2
 ·rw [Nat.min_eq_left h]
  have hp:=Nat.two_pow_pos drop;generalize 2 ^ drop=G at *;have hd:=Nat.div_add_mod n G;have hm:=Nat.mod_lt n hp;obtain ⟨q,hq⟩:∃q,q=n / G:=⟨_,rfl⟩;obtain ⟨r,hr⟩:∃r,r=n % G:=⟨_,rfl⟩;rw [<-hq,<-hr];rw [<-hq,<-hr] at hd;rw [<-hr] at hm;have hqG:G * q=q * G:=Nat.mul_comm _ _;have e1:2 * q * G=2 * (q * G):=Nat.mul_assoc _ _ _;have e2:(2 * q+1) * G=2 * (q * G)+G:=by rw [Nat.add_mul,Nat.one_mul,e1]
  have e3:2 * (q+1) * G=2 * (q * G)+2 * G:=by rw [Nat.mul_add,Nat.add_mul,e1]
  have e4:(2 * (q+1)+1) * G=2 * (q * G)+3 * G:=by rw [Nat.add_mul,Nat.one_mul,e3];omega
  by_cases h1:G<2 * r
  ·have:(decide (G<2 * r) || (G == 2 * r && q % 2 == 1))=true:=by simp [h1]
   rw [this];show 2 * (q+1) * G<=_/\_<=(2 * (q+1)+1) * G/\(2 * (q+1) * G=_\/_=(2 * (q+1)+1) * G->(q+1) % 2=0);rw [e3,e4];omega
  ·by_cases h2:G=2 * r/\q % 2=1
   ·have:(decide (G<2 * r) || (G == 2 * r && q % 2 == 1))=true:=by simp [h2.1,h2.2]
    rw [this];show 2 * (q+1) * G<=_/\_<=(2 * (q+1)+1) * G/\(2 * (q+1) * G=_\/_=(2 * (q+1)+1) * G->(q+1) % 2=0);rw [e3,e4];omega
   ·have:(decide (G<2 * r) || (G == 2 * r && q % 2 == 1))=false:=by
     rw [Bool.or_eq_false_iff,Bool.and_eq_false_iff,decide_eq_false_iff_not];refine ⟨h1,?_⟩;by_cases h3:G=2 * r
     ·right
      have:¬q % 2=1:=fun h4=>h2 ⟨h3,h4⟩;simpa using this
     ·left;simpa using h3
    rw [this];show 2 * (q+0) * G<=_/\_<=(2 * (q+0)+1) * G/\(2 * (q+0) * G=_\/_=(2 * (q+0)+1) * G->(q+0) % 2=0);rw [Nat.add_zero,e1,e2];omega
 ·rw [Nat.min_eq_right (by omega)]
  have hn:n<2 ^ (n.log2+1):=Nat.lt_log2_self;have e0:2 ^ (n.log2+2)=2 * 2 ^ (n.log2+1):=Nat.pow_succ';have hle:2 ^ (n.log2+2)<=2 ^ drop:=Nat.pow_le_pow_right (by decide) (by omega);have hd:n / 2 ^ (n.log2+2)=0:=Nat.div_eq_of_lt (by omega);have hm:n % 2 ^ (n.log2+2)=n:=Nat.mod_eq_of_lt (by omega);rw [hd,hm];have:(decide (2 ^ (n.log2+2)<2 * n) || (2 ^ (n.log2+2) == 2 * n && 0 % 2 == 1))=false:=by
   rw [Bool.or_eq_false_iff,Bool.and_eq_false_iff,decide_eq_false_iff_not];exact ⟨by omega,.inr rfl⟩
  rw [this];show 2 * (0+0) * 2 ^ drop<=_/\_<=(2 * (0+0)+1) * 2 ^ drop/\(2 * (0+0) * 2 ^ drop=_\/_=(2 * (0+0)+1) * 2 ^ drop->(0+0) % 2=0);simp only [Nat.add_zero,Nat.mul_zero,Nat.zero_mul,Nat.zero_add,Nat.one_mul];omega
theorem nearest_inI (neg:Bool) {mag:Nat} (hm:0<mag) (E3:Int) :
  ∃r,Ieee.double.nearest neg mag E3=Ieee.double.word neg (min r 9218868437227405312)/\InI r (mag * 2 ^ (E3+1075).toNat) (2 ^ (-(E3+1075)).toNat):=by
 unfold Ieee.Format.nearest;rw [if_neg (by omega)];simp only [Fc,binade,inf_rung,Nat.shiftLeft_eq,show Ieee.double.fractionBits=52 from rfl];obtain ⟨last,hl⟩:∃last:Int,last=max (E3+mag.log2 - ((52:Nat):Int)) (-1074):=⟨_,rfl⟩;rw [<-hl];obtain ⟨k,hk⟩:∃k:Nat,last=k - 1074:=⟨(last+1074).toNat,by omega⟩;rw [show (last - -1074).toNat=k by omega];obtain ⟨up,hup⟩:∃u,u=(E3 - last).toNat:=⟨_,rfl⟩;obtain ⟨dn,hdn⟩:∃u,u=(last - E3).toNat:=⟨_,rfl⟩;rw [<-hup,<-hdn];obtain ⟨c1,c2,c3⟩:=cut_spec neg (mag * 2 ^ up) dn;generalize hM:Toward.even.cut neg (mag * 2 ^ up) dn=m at *;have f:2 ^ mag.log2<=mag:=Nat.log2_self_le (by omega);have g:mag<2 ^ (mag.log2+1):=Nat.lt_log2_self;have hG:=Nat.two_pow_pos dn;have b53:mag * 2 ^ up<9007199254740992 * 2 ^ dn:=by
  have:mag * 2 ^ up<2 ^ (mag.log2+1) * 2 ^ up:=Nat.mul_lt_mul_of_pos_right g (Nat.two_pow_pos up);rw [<-Nat.pow_add] at this;have h2:2 ^ (mag.log2+1+up)<=2 ^ (53+dn):=Nat.pow_le_pow_right (by decide) (by omega);rw [Nat.pow_add 2 53] at h2;exact Nat.lt_of_lt_of_le this h2
 have d:k=0\/4503599627370496 * 2 ^ dn<=mag * 2 ^ up:=by
  rcases Nat.eq_zero_or_pos k with h | h
  ·exact .inl h
  ·right
   have:2 ^ mag.log2 * 2 ^ up<=mag * 2 ^ up:=Nat.mul_le_mul_right _ f;rw [<-Nat.pow_add] at this;have h2:2 ^ (52+dn)<=2 ^ (mag.log2+up):=Nat.pow_le_pow_right (by decide) (by omega);rw [Nat.pow_add 2 52] at h2;exact Nat.le_trans h2 this
 have hrel:mag * 2 ^ (E3+1075).toNat * 2 ^ dn=2 * (mag * 2 ^ up) * 2 ^ k * 2 ^ (-(E3+1075)).toNat:=by
  have e:2 ^ (E3+1075).toNat * 2 ^ dn=2 * 2 ^ up * 2 ^ k * 2 ^ (-(E3+1075)).toNat:=by
   rw [<-Nat.pow_succ', <-Nat.pow_add,<-Nat.pow_add,<-Nat.pow_add];congr 1;omega
  rw [Nat.mul_assoc,e];simp only [Nat.mul_assoc,Nat.mul_left_comm,Nat.mul_comm]
 generalize mag * 2 ^ up=n at *;generalize mag * 2 ^ (E3+1075).toNat=a at *;have hb:=Nat.two_pow_pos (-(E3+1075)).toNat;generalize 2 ^ (-(E3+1075)).toNat=b at *;generalize 2 ^ dn=G at *;have hT:0<2 ^ k * b:=Nat.mul_pos (Nat.two_pow_pos k) hb;have eT:∀c:Nat,c * 2 ^ k * b=c * (2 ^ k * b):=fun c=>Nat.mul_assoc _ _ _;rw [eT] at hrel;generalize hTe:2 ^ k * b=T at *;have m1:m<=9007199254740992:=by
  rcases Nat.lt_or_ge 9007199254740992 m with h | h
  ·have:2 * 9007199254740993 * G<=2 * m * G:=Nat.mul_le_mul_right _ (by omega)
   omega
  ·exact h
 have m0:k=0\/4503599627370496<=m:=by
  rcases d with h | h
  ·exact .inl h
  ·right
   rcases Nat.lt_or_ge m 4503599627370496 with h9 | h9
   ·have:(2 * m+1) * G<=9007199254740991 * G:=Nat.mul_le_mul_right _ (by omega)
    omega
   ·exact h9
 refine ⟨k * 4503599627370496+m,rfl,inI_of m0 m1 ?_ ?_ ?_ ?_⟩
 ·rw [eT,hTe]
  refine Nat.le_of_mul_le_mul_right ?_ hG;rw [Nat.add_mul,hrel,Nat.mul_right_comm,Nat.mul_comm T G,<-Nat.add_mul];exact Nat.mul_le_mul_right _ c1
 ·rw [eT]
  refine Nat.le_of_mul_le_mul_right ?_ hG;rw [hrel,Nat.mul_right_comm (2 * m+1) T G];exact Nat.mul_le_mul_right _ c2
 ·rw [eT,eT,hTe]
  intro h;refine c3 ?_;rcases h with h | h
  ·left
   refine Nat.eq_of_mul_eq_mul_right hT ?_;have:2 * m * T * G=(a+T) * G:=by rw [h]
   rw [Nat.add_mul,hrel,Nat.mul_right_comm,Nat.mul_comm T G,<-Nat.add_mul] at this;exact this
  ·right
   refine Nat.eq_of_mul_eq_mul_right hT ?_;have:2 * n * T=(2 * m+1) * T * G:=by rw [<-hrel,h]
   rw [this,Nat.mul_right_comm]
 ·rcases d with h | h
  ·exact .inl h
  ·have i:4503599627370496<=m:=by
    rcases Nat.lt_or_ge m 4503599627370496 with h9 | h9
    ·have:(2 * m+1) * G<=9007199254740991 * G:=Nat.mul_le_mul_right _ (by omega)
     omega
    ·exact h9
   rcases Nat.eq_or_lt_of_le i with h9 | h9
   ·right;right
    rw [eT,hTe];have:4503599627370496 * G * T<=n * T:=Nat.mul_le_mul_right _ h;have h8:2 * 4503599627370496 * T<=a:=by
     refine Nat.le_of_mul_le_mul_right ?_ hG;rw [hrel,Nat.mul_assoc 2,Nat.mul_assoc 2,Nat.mul_assoc 2 n];refine Nat.mul_le_mul_left 2 ?_;rw [Nat.mul_right_comm];exact this
    rw [<-h9];omega
   ·exact .inr (.inl h9)
end Go.Proofs.YtagkgfniihiinaaGreatDoor
namespace Go.Proofs.YtagkgfniihiinaaGreatDoor
theorem C6 {n:Nat} (h:n<10):(UInt8.ofNat (48+n)).toNat=48+n:=by rw [UInt8.toNat_ofNat'];omega
theorem Dr (u:Nat):∀c∈Lib.decDigits u,isD c=true:=by
 induction u using Nat.strongRecOn with
 | _ u ih=>
  intro c hc;rw [Lib.decDigits] at hc;have a:∀n:Nat,n<10->isD (UInt8.ofNat (48+n))=true:=fun n h=>by unfold isD;rw [C6 h];simp;omega
  by_cases h:u<10
  ·rw [dif_pos h,List.mem_singleton] at hc
   rw [hc];exact a u h
  ·rw [dif_neg h,List.mem_append,List.mem_singleton] at hc
   rcases hc with hc | hc
   ·exact ih (u / 10) (by omega) c hc
   ·rw [hc];exact a _ (Nat.mod_lt _ (by decide))
theorem El (u:Nat):valD (Lib.decDigits u)=u:=by
 induction u using Nat.strongRecOn with
 | _ u ih=>
  have a:∀n:Nat,n<10->dv (UInt8.ofNat (48+n))=n:=fun n h=>by unfold dv;rw [C6 h];omega
  rw [Lib.decDigits];by_cases h:u<10
  ·rw [dif_pos h,Dl,a u h];simp [valD]
  ·rw [dif_neg h,valD_snoc,ih (u / 10) (by omega),a _ (Nat.mod_lt _ (by decide))];omega
theorem dec_nil (u:Nat):Lib.decDigits u≠[]:=by
 intro h;have:=Lib.decDigits_length u;have:=Lib.nDigits_pos u;rw [h] at *;simp at *;omega
theorem dec_head:∀{u:Nat},0<u->∃c l,Lib.decDigits u=c :: l/\c≠48:=by
 intro u;induction u using Nat.strongRecOn with
 | _ u ih=>
  intro h0;rw [Lib.decDigits];by_cases h:u<10
  ·rw [dif_pos h]
   refine ⟨_,_,rfl,fun e=>?_⟩;have:=congrArg UInt8.toNat e;rw [C6 h] at this;have e8:(48:UInt8).toNat=48:=rfl;omega
  ·rw [dif_neg h]
   obtain ⟨c,l,h1,h2⟩:=ih (u / 10) (by omega) (by omega);rw [h1];exact ⟨c,_,rfl,h2⟩
theorem Dy (l:List UInt8):∃n,l=Aw l++List.replicate n 48:=by
 refine ⟨(l.reverse.takeWhile (· == 48)).length,?_⟩
 have h:=List.takeWhile_append_dropWhile (p:=fun c:UInt8=>c == 48) (l:=l.reverse);have h2:l.reverse.takeWhile (· == 48)=List.replicate (l.reverse.takeWhile (· == 48)).length 48:=by
  rw [List.eq_replicate_iff];refine ⟨rfl,fun b hb=>?_⟩;have d:∀(m:List UInt8) (b:UInt8),b∈m.takeWhile (· == 48)->b=48:=by
   intro m;induction m with
   | nil=>intro b h;simp at h
   | cons a m ih=>
    intro b h;rw [List.takeWhile_cons] at h;split at h
    ·rename_i ha
     rcases List.mem_cons.1 h with h | h
     ·rw [h];simpa using ha
     ·exact ih b h
    ·simp at h
  exact d _ b hb
 have h3:=congrArg List.reverse h;rw [List.reverse_reverse,List.reverse_append] at h3
 conv=>lhs;rw [<-h3]
 unfold Aw;congr 1;rw [h2,List.reverse_replicate,List.length_replicate]
theorem stripZ_last (l:List UInt8):Aw l=[]\/∃m c,Aw l=m++[c]/\c≠48:=by
 unfold Aw;cases h:l.reverse.dropWhile (· == 48) with
 | nil=>left;rfl
 | cons c m=>
  right;refine ⟨m.reverse,c,by rw [List.reverse_cons],fun e=>?_⟩;have:=List.head_dropWhile_not (p:=fun x:UInt8=>x == 48) (l:=l.reverse) (by rw [h];exact List.cons_ne_nil _ _);simp only [h,List.head_cons] at this;rw [e] at this;simp at this
theorem stripZ_mem {l:List UInt8} {c:UInt8} (h:c∈Aw l):c∈l:=by
 obtain ⟨n,hn⟩:=Dy l;rw [hn];exact List.mem_append_left _ h
theorem Ga (l:List UInt8):(Aw l).length<=l.length:=by
 obtain ⟨n,hn⟩:=Dy l;have:=congrArg List.length hn;rw [List.length_append] at this;omega
theorem valD_repl (n:Nat):valD (List.replicate n 48)=0:=valD_zeros (fun c hc=>(List.mem_replicate.1 hc).2)
theorem stripZ_val (l:List UInt8):valD l=valD (Aw l) * 10 ^ (l.length - (Aw l).length):=by
 obtain ⟨n,hn⟩:=Dy l;have h2:=congrArg List.length hn;rw [List.length_append,List.length_replicate] at h2
 conv=>lhs;rw [hn]
 rw [Df,valD_repl,Nat.add_zero,List.length_replicate];congr 2;omega
theorem stripZ_take (l:List UInt8):Aw l=l.take (Aw l).length:=by
 obtain ⟨n,hn⟩:=Dy l;have h:(Aw l++List.replicate n 48).take (Aw l).length=Aw l:=List.take_left ..;rw [<-hn] at h;exact h.symm
theorem stripZ_nil {l:List UInt8} (h:Aw l=[]):valD l=0:=by
 rw [stripZ_val,h];simp [valD]
theorem inI_pos {r d:Nat} {p:Int} (h:0<r) (h1:InI r (decA d p) (Aq p)):1<=d:=by
 rcases Nat.eq_zero_or_pos d with h0 | h0
 ·have hm:0<mid (r - 1):=by
   have:=rv_lt (show r - 1<r - 1+1 by omega);unfold mid;omega
  have hb:0<Aq p:=Nat.pow_pos (by decide);have h2:=Nat.mul_pos hm hb;have h3:decA d p=0:=by unfold decA;rw [h0];simp
  rcases h1.low with l | l | l
  ·omega
  ·rw [h3] at l;omega
  ·rw [h3] at l;omega
 ·exact h0
theorem short_between {r:Nat} (h:0<r) (hr:r<9218868437227405312):((A5 r).1=fMax r / 10/\(A5 r).2=1 - fP r/\fMin r<=fMax r / 10 * 10) \/
  (¬fMin r<=fMax r / 10 * 10/\(A5 r).2=-fP r/\(A5 r).1=if fMin r<fMax r then rndU (usc r (xM r)) else fMin r):=by
 unfold A5;by_cases h1:fMin r<=fMax r / 10 * 10
 ·rw [if_pos h1];exact .inl ⟨rfl,rfl,h1⟩
 ·rw [if_neg h1]
  right;split
  ·exact ⟨h1,rfl,rfl⟩
  ·exact ⟨h1,rfl,rfl⟩
end Go.Proofs.YtagkgfniihiinaaGreatDoor
namespace Go.Proofs.YtagkgfniihiinaaGreatDoor
open Ieee
theorem InI.cross {r a b a' b' : Nat} (hb:0<b) (hb' : 0<b') (h:a * b' = a' * b):InI r a b ↔ InI r a' b' := by
 rw [<-InI.scale hb', <-InI.scale (a:=a') (b:=b') hb,h,Nat.mul_comm b b']
theorem InI.self {r:Nat}:InI r (2 * rv r) 1:=by
 have h1:=rv_lt (show r<r+1 by omega);constructor
 ·rcases Nat.eq_zero_or_pos r with h | h
  ·exact .inl h
  ·right;left
   have h2:=rv_lt (show r - 1<r by omega);unfold mid;rw [show r - 1+1=r by omega];omega
 ·left;unfold mid;omega
theorem rung_whole {m:Nat} (hm:0<m) (h:m<9007199254740992):∃r,rv r=m * 2 ^ 1074/\r<9218868437227405312:=by
 obtain ⟨a,b,c⟩:=F6 hm;have hl:An m<=53:=by
  unfold An;rw [if_neg (by omega)];have:=(Nat.log2_lt (n:=m) (k:=53) (by omega)).2 h;omega
 refine ⟨(1021+An m) * 4503599627370496+m * 2 ^ (53 - An m),?_,?_⟩
 ·have h1:4503599627370496<=m * 2 ^ (53 - An m):=by
   have:2 ^ (An m - 1) * 2 ^ (53 - An m)<=m * 2 ^ (53 - An m):=Nat.mul_le_mul_right _ a;rw [<-Nat.pow_add,show An m - 1+(53 - An m)=52 by omega] at this;exact this
  have h2:m * 2 ^ (53 - An m)<=9007199254740992:=by
   have:m * 2 ^ (53 - An m)<=2 ^ An m * 2 ^ (53 - An m):=Nat.mul_le_mul_right _ (Nat.le_of_lt b);rw [<-Nat.pow_add,show An m+(53 - An m)=53 by omega] at this;exact this
  rw [rv_at (.inr h1) h2,Nat.mul_assoc,<-Nat.pow_add];congr 2;omega
 ·have h2:m * 2 ^ (53 - An m)<=9007199254740992:=by
   have:m * 2 ^ (53 - An m)<=2 ^ An m * 2 ^ (53 - An m):=Nat.mul_le_mul_right _ (Nat.le_of_lt b);rw [<-Nat.pow_add,show An m+(53 - An m)=53 by omega] at this;exact this
  omega
theorem skew_lin2 (m a b:Nat) (h:m * 2=(4 * 4503599627370496 - 1) * (2 * a * b)):m=18014398509481983 * a * b:=by
 rw [Nat.mul_assoc 2 a b] at h;rw [Nat.mul_assoc];generalize a * b=c at *;omega
theorem lin3 (n m X:Nat) (h:9007199254740992 * n<=m) (h2:m<X):18014398509481983 * n<2 * X:=by omega
theorem sticky_inI {r q X n:Nat} {p:Int} (hn:0<n) (hq:9007199254740992<=q) (hx0:q * n<=X) (hx1:X<(q+1) * n)
  (h:InI r ((2 * q+(decide (X≠q * n)).toNat) * 2 ^ p.toNat) (2 ^ (-p).toNat)):InI r (2 * X * 2 ^ p.toNat) (n * 2 ^ (-p).toNat):=by
 by_cases he:X=q * n
 ·rw [show (decide (X≠q * n))=false by simp [he]] at h
  have h2:InI r (2 * q * 2 ^ p.toNat) (2 ^ (-p).toNat):=h;refine (InI.cross (Nat.two_pow_pos _) (Nat.mul_pos hn (Nat.two_pow_pos _)) ?_).1 h2;rw [he];simp only [Nat.mul_assoc,Nat.mul_left_comm,Nat.mul_comm]
 ·rw [show (decide (X≠q * n))=true by simp [he]] at h
  have h2:InI r ((2 * q+1) * 2 ^ p.toNat) (2 ^ (-p).toNat):=h;clear h;have y:q * n<X:=by omega
  obtain ⟨s1,s2,s3⟩:=Ck r;have u:=mid_high r;have o:∀z:Nat,(2 * q+1<2 * z ↔ 2 * X<2 * z * n)/\(2 * z<2 * q+1 ↔ 2 * z * n<2 * X):=fun z=>by
   have e1:2 * z * n=2 * (z * n):=Nat.mul_assoc _ _ _;rw [e1];refine ⟨⟨fun h=>?_,fun h=>?_⟩,⟨fun h=>?_,fun h=>?_⟩⟩
   ·have:(q+1) * n<=z * n:=Nat.mul_le_mul_right _ (by omega)
    omega
   ·rcases Nat.lt_or_ge q z with h9 | h9
    ·omega
    ·have:z * n<=q * n:=Nat.mul_le_mul_right _ h9
     omega
   ·have:z * n<=q * n:=Nat.mul_le_mul_right _ (by omega)
    omega
   ·rcases Nat.lt_or_ge q z with h9 | h9
    ·have:(q+1) * n<=z * n:=Nat.mul_le_mul_right _ h9
     omega
    ·omega
  have f:∀z:Nat,0<r->r=0\/2 * z<2 * q+1\/(2 * z=2 * q+1/\r % 2=0)->2 * z * n<2 * X:=fun z c l=>by
   rcases l with l | l | ⟨l,_⟩
   ·exact absurd l (Nat.pos_iff_ne_zero.1 c)
   ·exact (o z).2.1 l
   ·exact absurd l (by clear o;omega)
  have k:∀z:Nat,2 * q+1<2 * z\/(2 * q+1=2 * z/\r % 2=0)->2 * X<2 * z * n:=fun z l=>by
   rcases l with l | ⟨l,_⟩
   ·exact (o z).1.1 l
   ·exact absurd l (by clear o;omega)
  rcases Int.lt_or_le p 0 with hp | hp
  ·-- units are coarser than halves of the least E3
   obtain ⟨j,hj⟩:∃j:Nat,(-p).toNat=j+1:=⟨(-p).toNat - 1,by omega⟩;rw [show p.toNat=0 by omega,hj,Nat.pow_zero,Nat.mul_one] at h2 ⊢;have e:∀m:Nat,m * 2 ^ (j+1)=2 * (m * 2 ^ j):=fun m=>by rw [Nat.pow_succ,<-Nat.mul_assoc,Nat.mul_comm]
   have e2:∀m:Nat,m * (n * 2 ^ (j+1))=2 * (m * 2 ^ j) * n:=fun m=>by rw [Nat.mul_left_comm,e,Nat.mul_comm]
   obtain ⟨l,g⟩:=h2;rw [e] at l g;constructor
   ·rcases Nat.eq_zero_or_pos r with c | c
    ·exact .inl c
    ·right;left
     rw [e2];exact f _ c l
   ·left
    rw [e2];exact k _ g
  ·obtain ⟨j,rfl⟩:∃j:Nat,p=j:=⟨p.toNat,by omega⟩
   rw [Int.toNat_natCast,show (-(j:Int)).toNat=0 by omega,Nat.pow_zero,Nat.mul_one] at *;have hJ:=Nat.two_pow_pos j;have hK:j+1<=rK r:=by
    rcases Nat.lt_or_ge (rK r) (j+1) with h9 | h9
    ·have g:=h2.high
     have:2 ^ rK r<=2 ^ j:=Nat.pow_le_pow_right (by decide) (by omega);have h3:(2 * rM r+1) * 2 ^ rK r<=18014398509481983 * 2 ^ j:=Nat.mul_le_mul (by omega) this;have h4:18014398509481985 * 2 ^ j<=(2 * q+1) * 2 ^ j:=Nat.mul_le_mul_right _ (by omega);rw [<-u] at h3;omega
    ·exact h9
   have c:0<r:=by
    rcases Nat.eq_zero_or_pos r with h9 | h9
    ·subst h9;exact absurd hK (by unfold rK;omega)
    ·exact h9
   obtain ⟨i,hi⟩:∃i,rK r=j+1+i:=⟨rK r - (j+1),by omega⟩;have eK:2 ^ rK r=2 * 2 ^ i * 2 ^ j:=by rw [hi,<-Nat.pow_succ', <-Nat.pow_add];congr 1;omega
   have d:∀a b:Nat,a * 2 ^ j<b * 2 ^ j ↔ a<b:=fun a b=>⟨fun h=>Nat.lt_of_mul_lt_mul_right h,fun h=>Nat.mul_lt_mul_of_pos_right h hJ⟩;have s:∀a b:Nat,a * 2 ^ j=b * 2 ^ j ↔ a=b:=fun a b=>⟨fun h=>Nat.eq_of_mul_eq_mul_right hJ h,fun h=>by rw [h]⟩;have eh:mid r=2 * ((2 * rM r+1) * 2 ^ i) * 2 ^ j:=by rw [u,eK];simp only [Nat.mul_assoc,Nat.mul_left_comm]
   have t:∀a:Nat,a * 2 ^ j * n=a * n * 2 ^ j:=fun a=>Nat.mul_right_comm _ _ _;constructor
   ·right
    cases hs:Do r with
    | false=>
     have el:mid (r - 1)=2 * ((2 * rM r - 1) * 2 ^ i) * 2 ^ j:=by rw [mid_low c hs,eK];simp only [Nat.mul_assoc,Nat.mul_left_comm]
     have l:=h2.low;simp only [Nat.mul_one] at l;rw [el] at l ⊢;rw [d,s] at l;rw [t,d];exact .inl (f _ c l)
    | true=>
     have h4:=mid_skew hs;rw [Do,Bool.and_eq_true,decide_eq_true_eq,decide_eq_true_eq] at hs;have g:=h2.high;simp only [Nat.mul_one] at g;rw [eh,d,s] at g;rw [hs.1] at g h4;left;have h5:mid (r - 1)=18014398509481983 * 2 ^ i * 2 ^ j:=by
      rw [eK] at h4;exact skew_lin2 _ _ _ h4
     rcases Nat.eq_zero_or_pos i with v | v
     ·subst v
      rw [h5,Nat.pow_zero,Nat.mul_one,t,d];exact lin3 _ _ _ (Nat.mul_le_mul_right _ hq) y
     ·obtain ⟨i', rfl⟩:=Nat.exists_eq_succ_of_ne_zero (Nat.pos_iff_ne_zero.1 v)
      have h6:mid (r - 1)=2 * (18014398509481983 * 2 ^ i') * 2 ^ j:=by
       rw [h5,Nat.pow_succ,Nat.mul_comm (2 ^ i') 2,Nat.mul_left_comm]
      have l:=h2.low;simp only [Nat.mul_one] at l;rw [h6] at l ⊢;rw [d,s] at l;rw [t,d];exact f _ c l
   ·have g:=h2.high
    simp only [Nat.mul_one] at g;left;rw [eh] at g ⊢;rw [d,s] at g;rw [t,d];exact k _ g
end Go.Proofs.YtagkgfniihiinaaGreatDoor
namespace Go.Proofs.YtagkgfniihiinaaGreatDoor
def A3:List UInt8->List UInt8->Bool
 | _,[]=>false
 | [],_ :: _=>true
 | a :: l,b :: m=>if a=b then A3 l m else decide (a.toNat<b.toNat)
def Db (k:Nat):Nat:=k+1 - Lib.nDigits (5 ^ k)
theorem isD_dv {c d:UInt8} (hc:isD c=true) (hd:isD d=true):(c=d ↔ dv c=dv d)/\(c.toNat<d.toNat ↔ dv c<dv d):=by
 unfold isD at hc hd;simp only [Bool.and_eq_true,decide_eq_true_eq] at hc hd;unfold dv;refine ⟨⟨fun e=>by rw [e],fun e=>UInt8.toNat_inj.1 (by omega)⟩,by omega⟩
theorem lex_val:∀{L C:List UInt8},(∀c∈L,isD c=true)->(∀c∈C,isD c=true)->(∀a b,C=a++b->b≠[]->0<valD b) ->
  (A3 L C=true ↔ valD L * 10 ^ C.length<valD C * 10 ^ L.length)
 | L,[],_,_,_=>by
  unfold A3;simp [valD]
 | [],b :: m,_,_,hz=>by
  unfold A3;have:=hz [] (b :: m) rfl (by simp);simp only [List.length_nil,Nat.pow_zero,Nat.mul_one,true_iff];rw [show valD []=0 from rfl,Nat.zero_mul];exact this
 | a :: l,b :: m,hL,hC,hz=>by
  have ha:=hL a (List.mem_cons_self ..);have hb:=hC b (List.mem_cons_self ..);have hl:=Du (l:=l) (fun x hx=>hL x (List.mem_cons_of_mem _ hx));have hm:=Du (l:=m) (fun x hx=>hC x (List.mem_cons_of_mem _ hx));obtain ⟨e1,e2⟩:=isD_dv ha hb
  have ih:=lex_val (L:=l) (C:=m) (fun x hx=>hL x (List.mem_cons_of_mem _ hx)) (fun x hx=>hC x (List.mem_cons_of_mem _ hx))
   (fun p q h hq=>hz (b :: p) q (by rw [h];rfl) hq)
  have hp1:0<10 ^ l.length:=Nat.pow_pos (by decide);have hp2:0<10 ^ m.length:=Nat.pow_pos (by decide);unfold A3;rw [Dl,Dl,List.length_cons,List.length_cons,Nat.pow_succ,Nat.pow_succ];generalize 10 ^ l.length=P at *;generalize 10 ^ m.length=Q at *;generalize valD l=x at *;generalize valD m=y at *;by_cases h:a=b
  ·rw [if_pos h,ih,e1.1 h]
   rw [Nat.add_mul,Nat.add_mul];have k1:dv b * P * (Q * 10)=dv b * Q * (P * 10):=by simp only [Nat.mul_assoc,Nat.mul_left_comm,Nat.mul_comm]
   have k2:x * (Q * 10)=x * Q * 10:=by simp only [Nat.mul_assoc]
   have k3:y * (P * 10)=y * P * 10:=by simp only [Nat.mul_assoc]
   omega
  ·rw [if_neg h,decide_eq_true_iff,e2]
   have hne:dv a≠dv b:=fun e=>h (e1.2 e);generalize dv a=u at *;generalize dv b=v at *;constructor
   ·intro d
    have k1:(u * P+x) * (Q * 10)<(u+1) * P * (Q * 10):=Nat.mul_lt_mul_of_pos_right (by rw [Nat.add_mul];omega) (by omega);have k2:(u+1) * P * (Q * 10)<=v * P * (Q * 10):=Nat.mul_le_mul_right _ (Nat.mul_le_mul_right _ d);have k3:v * P * (Q * 10)=v * Q * (P * 10):=by simp only [Nat.mul_assoc,Nat.mul_left_comm,Nat.mul_comm]
    have k4:v * Q * (P * 10)<=(v * Q+y) * (P * 10):=Nat.mul_le_mul_right _ (Nat.le_add_right _ _);omega
   ·intro d
    rcases Nat.lt_or_ge u v with h9 | h9
    ·exact h9
    ·exfalso
     have k1:(v * Q+y) * (P * 10)<(v+1) * Q * (P * 10):=Nat.mul_lt_mul_of_pos_right (by rw [Nat.add_mul];omega) (by omega);have k2:(v+1) * Q * (P * 10)<=u * Q * (P * 10):=Nat.mul_le_mul_right _ (Nat.mul_le_mul_right _ (by omega));have k3:u * Q * (P * 10)=u * P * (Q * 10):=by simp only [Nat.mul_assoc,Nat.mul_left_comm,Nat.mul_comm]
     have k4:u * P * (Q * 10)<=(u * P+x) * (Q * 10):=Nat.mul_le_mul_right _ (Nat.le_add_right _ _);omega
theorem Et {v:Nat} (h:0<v):1<=Lib.nDigits v/\10 ^ (Lib.nDigits v - 1)<=v/\v<10 ^ Lib.nDigits v:=by
 induction v using Nat.strongRecOn with
 | _ v ih=>
  by_cases h1:v<10
  ·rw [Lib.nDigits_small h1];exact ⟨by decide,by simp;omega,by simpa using h1⟩
  ·rw [Lib.nDigits_big h1]
   obtain ⟨a,b,c⟩:=ih (v / 10) (by omega) (by omega);generalize Lib.nDigits (v / 10)=n at *;refine ⟨by omega,?_,?_⟩
   ·obtain ⟨m,rfl⟩:∃m,n=m+1:=⟨n - 1,by omega⟩
    rw [Nat.add_sub_cancel] at *;rw [Nat.pow_succ];omega
   ·rw [Nat.pow_succ];omega
theorem Da {v n:Nat} (h:0<v) (hn:v<10 ^ n):Lib.nDigits v<=n:=by
 obtain ⟨a,b,_⟩:=Et h;have:=(Nat.pow_lt_pow_iff_right (a:=10) (by decide)).1 (Nat.lt_of_le_of_lt b hn);omega
theorem F7 {v n:Nat} (h:0<v) (hn:10 ^ n<=v):n+1<=Lib.nDigits v:=by
 obtain ⟨a,_,c⟩:=Et h;have:=(Nat.pow_lt_pow_iff_right (a:=10) (by decide)).1 (Nat.lt_of_le_of_lt hn c);omega
theorem five_len (k:Nat):Lib.nDigits (5 ^ k)<=k+1:=by
 refine Da (Nat.pow_pos (by decide)) ?_;exact Nat.lt_of_le_of_lt (Nat.pow_le_pow_left (by decide) k) (Nat.pow_lt_pow_right (by decide) (by omega))
theorem five_odd (k:Nat):5 ^ k % 2=1:=by
 induction k with
 | zero=>rfl
 | succ k ih=>rw [Nat.pow_succ];omega
theorem cheat_ok {L:List UInt8} {k:Nat} (hL:∀c∈L,isD c=true) (hv:10 ^ (L.length - 1)<=valD L) (hl:1<=L.length) :
  Lib.nDigits (valD L * 2 ^ k)+(if A3 L (Lib.decDigits (5 ^ k)) then 1 else 0)=L.length+Db k/\(A3 L (Lib.decDigits (5 ^ k))=true->1<=L.length+Db k):=by
 have h5:0<5 ^ k:=Nat.pow_pos (by decide);obtain ⟨c0,c1,c2⟩:=Et h5;have j:=five_len k;have i:∀a b,Lib.decDigits (5 ^ k)=a++b->b≠[]->0<valD b:=by
  intro a b e hb;have hodd:=five_odd k;have:=congrArg valD e;rw [El,Df] at this;rcases Nat.eq_zero_or_pos (valD b) with h | h
  ·exfalso
   obtain ⟨m,hm⟩:∃m,b.length=m+1:=⟨b.length - 1,by have:=List.length_pos_iff.2 hb;omega⟩;rw [h,hm,Nat.pow_succ,Nat.add_zero,<-Nat.mul_assoc] at this;omega
  ·exact h
 have d:=lex_val hL (Dr (5 ^ k)) i;rw [El,Lib.decDigits_length] at d;have hD:=Du hL;have g:5 ^ k * 2 ^ k=10 ^ k:=by rw [<-Nat.mul_pow]
 have h2:0<2 ^ k:=Nat.two_pow_pos k;have f:0<valD L * 2 ^ k:=Nat.mul_pos (Nat.lt_of_lt_of_le (Nat.pow_pos (by decide)) hv) h2;unfold Db;obtain ⟨lc,hlcE⟩:∃n,Lib.nDigits (5 ^ k)=n:=⟨_,rfl⟩;rw [hlcE] at c0 c1 c2 j d ⊢;generalize A3 L (Lib.decDigits (5 ^ k))=b at *;generalize valD L=D at *;generalize L.length=nd at *;have up:D * 2 ^ k<10 ^ (nd+(k+1 - lc)):=by
  refine Nat.lt_of_mul_lt_mul_right (a:=10 ^ (lc - 1)) ?_;rw [<-Nat.pow_add,show nd+(k+1 - lc)+(lc - 1)=nd+k by omega,Nat.pow_add,<-g];have k1:D * 2 ^ k * 10 ^ (lc - 1)<=D * 2 ^ k * 5 ^ k:=Nat.mul_le_mul_left _ c1;have k2:D * 2 ^ k * 5 ^ k<10 ^ nd * (5 ^ k * 2 ^ k):=by
   rw [Nat.mul_assoc,Nat.mul_comm (2 ^ k)];exact Nat.mul_lt_mul_of_pos_right hD (Nat.mul_pos h5 h2)
  omega
 cases b
 ·have l:5 ^ k * 10 ^ nd<=D * 10 ^ lc:=by
   rcases Nat.lt_or_ge (D * 10 ^ lc) (5 ^ k * 10 ^ nd) with h | h
   ·exact absurd (d.2 h) (by decide)
   ·exact h
  refine ⟨?_,fun h=>absurd h (by decide)⟩;have lo:10 ^ (nd+k - lc)<=D * 2 ^ k:=by
   refine Nat.le_of_mul_le_mul_right (c:=10 ^ lc) ?_ (Nat.pow_pos (by decide));have k1:=Nat.mul_le_mul_right (2 ^ k) l;rcases Nat.lt_or_ge (nd+k) lc with h9 | h9
   ·omega
   ·rw [<-Nat.pow_add,show nd+k - lc+lc=nd+k by omega,Nat.pow_add,<-g]
    have e1:10 ^ nd * (5 ^ k * 2 ^ k)=5 ^ k * 10 ^ nd * 2 ^ k:=by simp only [Nat.mul_assoc,Nat.mul_left_comm,Nat.mul_comm]
    have e2:D * 2 ^ k * 10 ^ lc=D * 10 ^ lc * 2 ^ k:=by simp only [Nat.mul_assoc,Nat.mul_left_comm,Nat.mul_comm]
    rw [e1,e2];exact k1
  have h1:=Da f up;have h2:=F7 f lo;simp only [Bool.false_eq_true,if_false];omega
 ·have o:=d.1 rfl
  refine ⟨?_,fun _=>by omega⟩;have p:D * 2 ^ k<10 ^ (nd+k - lc):=by
   refine Nat.lt_of_mul_lt_mul_right (a:=10 ^ lc) ?_;rw [<-Nat.pow_add,show nd+k - lc+lc=nd+k by omega,Nat.pow_add,<-g];have e1:10 ^ nd * (5 ^ k * 2 ^ k)=5 ^ k * 10 ^ nd * 2 ^ k:=by simp only [Nat.mul_assoc,Nat.mul_left_comm,Nat.mul_comm]
   have e2:D * 2 ^ k * 10 ^ lc=D * 10 ^ lc * 2 ^ k:=by simp only [Nat.mul_assoc,Nat.mul_left_comm,Nat.mul_comm]
   rw [e1,e2];exact Nat.mul_lt_mul_of_pos_right o h2
  have lo:10 ^ (nd - 1+(k - lc))<=D * 2 ^ k:=by
   by_cases hkl:lc<=k
   ·rw [Nat.pow_add]
    refine Nat.mul_le_mul hv ?_;refine Nat.le_of_mul_le_mul_right (c:=5 ^ k) ?_ h5;rw [Nat.mul_comm (2 ^ k),g];have:10 ^ (k - lc) * 5 ^ k<=10 ^ (k - lc) * 10 ^ lc:=Nat.mul_le_mul_left _ (Nat.le_of_lt c2);rw [<-Nat.pow_add,show k - lc+lc=k by omega] at this;exact this
   ·rw [show k - lc=0 by omega,Nat.add_zero]
    exact Nat.le_trans hv (Nat.le_mul_of_pos_right _ h2)
  have h1:=Da f p;have h3:=F7 f lo;simp only [if_true];by_cases hkl:lc<=k
  ·omega
  ·-- 5 ^ k has k+1 digits only at k=0
   have q:k=0:=by
    rcases Nat.eq_zero_or_pos k with h | h
    ·exact h
    ·exfalso
     have:5 ^ k<10 ^ k:=Nat.pow_lt_pow_left (by decide) (by omega);have:=Da h5 this;omega
   subst q;omega
end Go.Proofs.YtagkgfniihiinaaGreatDoor
namespace Go.Proofs.YtagkgfniihiinaaGreatDoor
open Ieee Go
theorem two_pw (d c e:Nat) (h:e=c+1):2 * (d * 2 ^ c)=d * 2 ^ e:=by rw [h,Nat.pow_succ,Nat.mul_comm (2 ^ c),Nat.mul_left_comm]
theorem mul_tp {a:Nat} (c:Nat) (h:0<a):0<a * 2 ^ c:=Nat.mul_pos h (Nat.two_pow_pos c)
theorem rv_ne {n c:Nat} (hn:0<n) (h:rv 0=n * 2 ^ c):False:=by
 have h0:rv 0=0:=rfl;have h1:=Nat.mul_pos hn (Nat.two_pow_pos c);omega
theorem word_is (neg:Bool) (x:Nat):Ieee.double.word neg x=(if neg then 9223372036854775808 else 0)+x:=by
 unfold Ieee.Format.word;rw [E9];cases neg<;>simp
theorem write_num (neg:Bool) (m:Nat) (p:Int):Ieee.double.write (.number neg m p)=Ieee.double.nearest neg m p:=rfl
theorem flt_rung {d:Nat} (h0:0<d) (h1:d<9007199254740992):∃R,floatOfInt .f64 (d:Int)=R/\rv R=d * 2 ^ 1074/\R<9218868437227405312/\0<R:=by
 obtain ⟨R,hR,a⟩:=rung_whole h0 h1;have e:floatOfInt .f64 (d:Int)=Ieee.double.nearest false d 0:=by
  show Ieee.double.write (.number (decide ((d:Int)<0)) (d:Int).natAbs 0)=_;rw [decide_eq_false (by omega),Int.natAbs_natCast,write_num]
 obtain ⟨r,h2,h3⟩:=nearest_inI false h0 0;have h4:InI R (2 * rv R) 1:=InI.self;have h5:InI r (2 * rv R) 1:=by
  rw [show (0+1075:Int).toNat=1075 by rfl,show (-(0+1075:Int)).toNat=0 by rfl,Nat.pow_zero] at h3;have:2 * rv R=d * 2 ^ 1075:=by rw [hR];exact two_pw d 1074 1075 rfl
  rw [this];exact h3
 have h6:=h5.uniq (by decide) h4;refine ⟨R,?_,hR,a,?_⟩
 ·rw [e,h2,h6,Nat.min_eq_left (Nat.le_of_lt a),word_is];simp
 ·rcases Nat.eq_zero_or_pos R with h | h
  ·rw [h] at hR
   exact (rv_ne h0 hR).elim
  ·exact h
theorem mul_rung {n1:Bool} {R z:Nat} (hR:R<9218868437227405312) (hR0:0<R) (hz:z<9218868437227405312) (hz0:0<z) :
  ∃r,Ieee.double.mul ((if n1 then 9223372036854775808 else 0)+R) z=some ((if n1 then 9223372036854775808 else 0)+min r 9218868437227405312)/\InI r (rv R * rv z) (2 ^ 1073):=by
 obtain ⟨m1,p1,h1,q1,e1⟩:=C2 (n:=(if n1 then 9223372036854775808 else 0)+R) (by split<;>omega);obtain ⟨m2,p2,h2,q2,e2⟩:=C2 (n:=z) (by omega);have g1:negF ((if n1 then 9223372036854775808 else 0)+R)=n1:=by unfold negF;cases n1<;>simp<;>omega
 have g2:negF z=false:=by unfold negF;simp;omega
 have k1:((if n1 then 9223372036854775808 else 0)+R) % 9223372036854775808=R:=by split<;>omega
 have k2:z % 9223372036854775808=z:=by omega
 rw [k1] at e1;rw [k2] at e2;rw [g1] at h1;rw [g2] at h2;have a:0<m1:=by
  rcases Nat.eq_zero_or_pos m1 with h | h
  ·rw [h,Nat.zero_mul] at e1
   have:=rv_pos.1 e1.symm;omega
  ·exact h
 have b:0<m2:=by
  rcases Nat.eq_zero_or_pos m2 with h | h
  ·rw [h,Nat.zero_mul] at e2
   have:=rv_pos.1 e2.symm;omega
  ·exact h
 obtain ⟨r,h3,h4⟩:=nearest_inI n1 (Nat.mul_pos a b) (p1+p2);refine ⟨r,?_,?_⟩
 ·unfold Ieee.Format.mul
  rw [h1,h2];show some (Ieee.double.write (.number (n1 ^^ false) (m1 * m2) (p1+p2)))=_;rw [write_num,Bool.xor_false,h3,word_is]
 ·obtain ⟨c73,hc⟩:∃c:Nat,c=1073:=⟨_,rfl⟩
  rw [<-hc];refine (InI.cross (Nat.two_pow_pos _) (Nat.two_pow_pos _) ?_).1 h4;rw [<-e1,<-e2];have hp:(2:Nat) ^ (p1+1074).toNat * 2 ^ (p2+1074).toNat * 2 ^ (-(p1+p2+1075)).toNat=2 ^ (p1+p2+1075).toNat * 2 ^ c73:=by
   rw [<-Nat.pow_add,<-Nat.pow_add,<-Nat.pow_add];congr 1;omega
  have:m1 * 2 ^ (p1+1074).toNat * (m2 * 2 ^ (p2+1074).toNat) * 2 ^ (-(p1+p2+1075)).toNat=m1 * m2 * (2 ^ (p1+1074).toNat * 2 ^ (p2+1074).toNat * 2 ^ (-(p1+p2+1075)).toNat):=by
   simp only [Nat.mul_assoc,Nat.mul_left_comm]
  rw [this,hp];simp only [Nat.mul_assoc]
theorem quo_top {m n:Nat} (hm:0<m) (hn:0<n):9007199254740992<=m * 2 ^ (54+n.log2 - m.log2) / n:=by
 rw [Nat.le_div_iff_mul_le hn];have h1:2 ^ m.log2<=m:=Nat.log2_self_le (by omega);have h2:n<2 ^ (n.log2+1):=Nat.lt_log2_self;have h3:2 ^ m.log2 * 2 ^ (54+n.log2 - m.log2)<=m * 2 ^ (54+n.log2 - m.log2):=Nat.mul_le_mul_right _ h1;rw [<-Nat.pow_add] at h3;have h4:(2:Nat) ^ (54+n.log2)<=2 ^ (m.log2+(54+n.log2 - m.log2)):=Nat.pow_le_pow_right (by decide) (by omega);have h5:(2:Nat) ^ (54+n.log2)=9007199254740992 * 2 ^ (n.log2+1):=by
  rw [show (9007199254740992:Nat)=2 ^ 53 by decide,<-Nat.pow_add];congr 1;omega
 have h6:9007199254740992 * n<=9007199254740992 * 2 ^ (n.log2+1):=Nat.mul_le_mul_left _ (Nat.le_of_lt h2);exact Nat.le_trans h6 (Nat.le_trans (Nat.le_of_eq h5.symm) (Nat.le_trans h4 h3))
theorem quo_rung {n1:Bool} {R z:Nat} (hR:R<9218868437227405312) (hR0:0<R) (hz:z<9218868437227405312) (hz0:0<z) :
  ∃r,Ieee.double.div ((if n1 then 9223372036854775808 else 0)+R) z=some ((if n1 then 9223372036854775808 else 0)+min r 9218868437227405312)/\InI r (rv R * 2 ^ 1075) (rv z):=by
 obtain ⟨m1,p1,h1,q1,e1⟩:=C2 (n:=(if n1 then 9223372036854775808 else 0)+R) (by split<;>omega);obtain ⟨m2,p2,h2,q2,e2⟩:=C2 (n:=z) (by omega);have g1:negF ((if n1 then 9223372036854775808 else 0)+R)=n1:=by unfold negF;cases n1<;>simp<;>omega
 have g2:negF z=false:=by unfold negF;simp;omega
 have k1:((if n1 then 9223372036854775808 else 0)+R) % 9223372036854775808=R:=by split<;>omega
 have k2:z % 9223372036854775808=z:=by omega
 rw [k1] at e1;rw [k2] at e2;rw [g1] at h1;rw [g2] at h2;have d:0<m1:=by
  rcases Nat.eq_zero_or_pos m1 with h | h
  ·rw [h,Nat.zero_mul] at e1
   have:=rv_pos.1 e1.symm;omega
  ·exact h
 have a:0<m2:=by
  rcases Nat.eq_zero_or_pos m2 with h | h
  ·rw [h,Nat.zero_mul] at e2
   have:=rv_pos.1 e2.symm;omega
  ·exact h
 have hq:=quo_top d a;obtain ⟨mo,hmo⟩:∃mo,mo=54+m2.log2 - m1.log2:=⟨_,rfl⟩;rw [<-hmo] at hq;obtain ⟨X,hX⟩:∃X,X=m1 * 2 ^ mo:=⟨_,rfl⟩;rw [<-hX] at hq;obtain ⟨P,hP⟩:∃P:Int,P=p1 - p2 - mo - 1:=⟨_,rfl⟩;have e:(X % m2 != 0).toNat=(decide (X≠X / m2 * m2)).toNat:=by
  have h9:=Nat.div_add_mod X m2;rw [Nat.mul_comm] at h9;congr 1;by_cases h:X % m2=0
  ·have h8:X=X / m2 * m2:=by omega
   rw [show (X % m2 != 0)=false by simp [h],decide_eq_false (fun hne=>hne h8)]
  ·have h8:X≠X / m2 * m2:=by omega
   rw [show (X % m2 != 0)=true by simp [h],decide_eq_true h8]
 have b:0<2 * (X / m2)+(X % m2 != 0).toNat:=by omega
 obtain ⟨r,h3,h4⟩:=nearest_inI n1 b P;refine ⟨r,?_,?_⟩
 ·unfold Ieee.Format.div
  rw [h1,h2];unfold Ieee.Datum.quotient;simp only [Nat.pos_iff_ne_zero.1 a,if_false,Bool.xor_false,show Ieee.double.fractionBits+2=54 from rfl,<-hmo,Nat.shiftLeft_eq,<-hX,<-hP];show some (Ieee.double.write _)=_;rw [write_num,h3,word_is]
 ·rw [e] at h4
  have h5:=sticky_inI (p:=P+1075) a hq (by have:=Nat.div_mul_le_self X m2;exact this) (by
   have h9:=Nat.div_add_mod X m2;have h8:=Nat.mod_lt X a;rw [Nat.add_mul,Nat.one_mul,Nat.mul_comm (X / m2)];omega) h4
  have f:0<rv z:=by rw [<-e2];exact Nat.mul_pos a (Nat.two_pow_pos _)
  refine (InI.cross (Nat.mul_pos a (Nat.two_pow_pos _)) f ?_).1 h5;rw [<-e1,<-e2,hX];obtain ⟨c75,hc⟩:∃c:Nat,c=1075:=⟨_,rfl⟩;rw [<-hc];have hp:2 * 2 ^ mo * 2 ^ (P+1075).toNat * 2 ^ (p2+1074).toNat=2 ^ (p1+1074).toNat * 2 ^ c75 * 2 ^ (-(P+1075)).toNat:=by
   rw [<-Nat.pow_succ', <-Nat.pow_add,<-Nat.pow_add,<-Nat.pow_add,<-Nat.pow_add];congr 1;omega
  have e3:2 * (m1 * 2 ^ mo) * 2 ^ (P+1075).toNat * (m2 * 2 ^ (p2+1074).toNat)=m1 * m2 * (2 * 2 ^ mo * 2 ^ (P+1075).toNat * 2 ^ (p2+1074).toNat):=by
   simp only [Nat.mul_assoc,Nat.mul_left_comm]
  rw [e3,hp];simp only [Nat.mul_assoc,Nat.mul_left_comm]
end Go.Proofs.YtagkgfniihiinaaGreatDoor
namespace Go.Proofs.YtagkgfniihiinaaGreatDoor
structure Dec where
 L:List UInt8
 dp:Int
 tr:Bool
structure Dec.Good (d:Dec):Prop where
 dig:∀c∈d.L,isD c=true
 len:d.L.length<=800
 head:∃c l,d.L=c :: l/\c≠48
def Ge (L:List UInt8) (dp:Int) (tr:Bool):Dec:=⟨Aw L,if Aw L=[] then 0 else dp,tr⟩
def lsO (k:Nat) (d:Dec):List UInt8:=Lib.decDigits (valD d.L * 2 ^ k)
def lsD (k:Nat) (d:Dec):Dec:=Ge ((lsO k d).take 800) (d.dp+(((lsO k d).length:Int) - d.L.length)) (d.tr || ((lsO k d).drop 800).any (· != 48))
def A8 (k:Nat):Nat->List UInt8->Nat × Nat × List UInt8
 | n,[]=>(n,0,[])
 | n,c :: l=>if n / 2 ^ k=0 then ((A8 k (n * 10+dv c) l).1,(A8 k (n * 10+dv c) l).2.1+1,(A8 k (n * 10+dv c) l).2.2) else (n,0,c :: l)
def Cw (k:Nat):Nat->Nat->Nat × Nat
 | 0,n=>(n,0)
 | f+1,n=>if n / 2 ^ k=0 then ((Cw k f (n * 10)).1,(Cw k f (n * 10)).2+1) else (n,0)
def outR (k:Nat):Nat->List UInt8->List UInt8 × Nat
 | n,[]=>([],n)
 | n,c :: l=>(dg8 (n / 2 ^ k) :: (outR k (n % 2 ^ k * 10+dv c) l).1,(outR k (n % 2 ^ k * 10+dv c) l).2)
def Cs (k:Nat):Nat->Nat->List UInt8
 | 0,_=>[]
 | f+1,n=>if n=0 then [] else dg8 (n / 2 ^ k) :: Cs k f (n % 2 ^ k * 10)
def rsP (k:Nat) (d:Dec):Nat × Nat × List UInt8:=A8 k 0 d.L
def rsF (k:Nat) (d:Dec):Nat × Nat:=Cw k 20 (rsP k d).1
def rsO (k:Nat) (d:Dec):List UInt8:=(outR k (rsF k d).1 (rsP k d).2.2).1++Cs k (k+2) (outR k (rsF k d).1 (rsP k d).2.2).2
def rsD (k:Nat) (d:Dec):Dec:=Ge ((rsO k d).take 800) (d.dp - ((rsP k d).2.1+(rsF k d).2:Nat)+1) (d.tr || ((rsO k d).drop 800).any (· != 48))
theorem strip_head {c:UInt8} {l:List UInt8} (h:c≠48):∃m,Aw (c :: l)=c :: m:=by
 obtain ⟨n,e⟩:=Dy (c :: l);cases h2:Aw (c :: l) with
 | nil=>
  exfalso;rw [h2,List.nil_append] at e;have:c∈List.replicate n 48:=by rw [<-e];exact List.mem_cons_self ..
  exact h (List.eq_of_mem_replicate this)
 | cons a m=>
  rw [h2,List.cons_append] at e;rw [(List.cons.inj e).1];exact ⟨m,rfl⟩
theorem good_trim {O:List UInt8} {c:UInt8} {l:List UInt8} (hO:O=c :: l) (hd:∀b∈O,isD b=true) (hc:c≠48) (dp:Int) (tr:Bool) :
  (Ge (O.take 800) dp tr).Good/\(Ge (O.take 800) dp tr).dp=dp/\∃m,(Ge (O.take 800) dp tr).L=c :: m:=by
 subst hO;obtain ⟨m,hm⟩:=strip_head (l:=l.take 799) hc;have he:(c :: l).take 800=c :: l.take 799:=rfl;unfold Ge;rw [he];refine ⟨⟨fun b hb=>?_,?_,c,m,hm,hc⟩,?_,m,hm⟩
 ·have:=stripZ_mem hb
  rcases List.mem_cons.1 this with h | h
  ·rw [h];exact hd c (List.mem_cons_self ..)
  ·exact hd b (List.mem_cons_of_mem _ (List.mem_of_mem_take h))
 ·refine Nat.le_trans (Ga _) ?_
  rw [List.length_cons,List.length_take];omega
 ·show (if Aw (c :: l.take 799)=[] then 0 else dp)=dp
  rw [if_neg (by rw [hm];simp)]
theorem head_val {c:UInt8} {l:List UInt8} (hd:∀b∈c :: l,isD b=true) (hc:c≠48):1<=dv c/\dv c<=9/\dv c * 10 ^ l.length<=valD (c :: l)/\valD (c :: l)<(dv c+1) * 10 ^ l.length:=by
 have h1:=hd c (List.mem_cons_self ..);have h2:=Du (l:=l) (fun b hb=>hd b (List.mem_cons_of_mem _ hb));have h3:dv c≠0:=by
  intro e;apply hc;unfold isD at h1;simp only [Bool.and_eq_true,decide_eq_true_eq] at h1;unfold dv at e;exact UInt8.toNat_inj.1 (show c.toNat=48 by omega)
 have h4:=Gd h1;rw [Dl,Nat.add_mul];omega
theorem Dec.Good.val {d:Dec} (h:d.Good):10 ^ (d.L.length - 1)<=valD d.L/\1<=d.L.length:=by
 obtain ⟨c,l,e,hc⟩:=h.head;have hd:=h.dig;rw [e] at hd ⊢;obtain ⟨a,b,p,q⟩:=head_val hd hc;rw [List.length_cons,Nat.add_sub_cancel];refine ⟨Nat.le_trans ?_ p,by omega⟩;exact Nat.le_mul_of_pos_left _ a
theorem ls_len {d:Dec} (h:d.Good) (k:Nat):(lsO k d).length+(if A3 d.L (Lib.decDigits (5 ^ k)) then 1 else 0)=d.L.length+Db k:=by
 unfold lsO;rw [Lib.decDigits_length];exact (cheat_ok h.dig h.val.1 h.val.2).1
theorem ls_good {d:Dec} (h:d.Good) (k:Nat):(lsD k d).Good/\(lsD k d).dp=d.dp+(((lsO k d).length:Int) - d.L.length)/\d.L.length<=(lsO k d).length /\
  ∃c l c' l', d.L=c :: l/\(lsD k d).L=c' :: l' /\ 1<=dv c/\dv c<=9/\1<=dv c' /\ dv c' <= 9/\((lsO k d).length=d.L.length->dv c * 2 ^ k<=dv c'):=by
 obtain ⟨c,l,e,hc⟩:=h.head;have hv:=h.val;have a:0<valD d.L * 2 ^ k:=Nat.mul_pos (Nat.lt_of_lt_of_le (Nat.pow_pos (by decide)) hv.1) (Nat.two_pow_pos k);obtain ⟨c', l', e', i⟩:=dec_head a;have b := Dr (valD d.L * 2 ^ k);obtain ⟨g1,g2,m,g3⟩:=good_trim (O:=lsO k d) e' b i (d.dp+(((lsO k d).length:Int) - d.L.length)) (d.tr || ((lsO k d).drop 800).any (· != 48))
 have f:=h.dig;rw [e] at f;obtain ⟨a1,a2,a3,a4⟩:=head_val f hc;rw [e'] at b;obtain ⟨b1,b2,b3,b4⟩:=head_val b i;have g:d.L.length<=(lsO k d).length:=by
  have h1:=hv.1;have h2:=F7 a (Nat.le_trans h1 (Nat.le_mul_of_pos_right _ (Nat.two_pow_pos k)));unfold lsO;rw [Lib.decDigits_length];have:=hv.2;omega
 refine ⟨g1,g2,g,c,l,c', m,e,g3,a1,a2,b1,b2,fun hl=>?_⟩;have j:l'.length=l.length:=by
  have:=hl;unfold lsO at this;rw [e', e] at this;simpa using this
 rw [<-e', El,e,j] at b4;have k1:dv c * 2 ^ k * 10 ^ l.length<=valD (c :: l) * 2 ^ k:=by
  rw [Nat.mul_right_comm];exact Nat.mul_le_mul_right _ a3
 have:=Nat.lt_of_mul_lt_mul_right (Nat.lt_of_le_of_lt k1 b4);omega
theorem pick_spec (k:Nat):∀(l:List UInt8) (n:Nat),(∀c∈l,isD c=true)->n<10 * 2 ^ k->n * 10 ^ (A8 k n l).2.1<=(A8 k n l).1/\(A8 k n l).1<(n+1) * 10 ^ (A8 k n l).2.1/\(A8 k n l).1<10 * 2 ^ k /\
  ((A8 k n l).1 / 2 ^ k=0->(A8 k n l).2.2=[])/\l=l.take (A8 k n l).2.1++(A8 k n l).2.2/\(A8 k n l).2.1+(A8 k n l).2.2.length=l.length/\(l≠[]->n<2 ^ k->1<=(A8 k n l).2.1)
 | [],n,_,hn=>by simp [A8,hn]
 | c :: l,n,hd,hn=>by
  have h2:=Nat.two_pow_pos k;have hc:=Gd (hd c (List.mem_cons_self ..));unfold A8;by_cases h:n / 2 ^ k=0
  ·have hlt:n<2 ^ k:=by
    rcases Nat.lt_or_ge n (2 ^ k) with h9 | h9
    ·exact h9
    ·have:=Nat.div_pos h9 h2;omega
   rw [if_pos h];obtain ⟨a,b,e,f,g,i,_⟩:=pick_spec k l (n * 10+dv c) (fun x hx=>hd x (List.mem_cons_of_mem _ hx)) (by omega);generalize A8 k (n * 10+dv c) l=p at *;obtain ⟨p1,p2,p3⟩:=p;dsimp only at *;refine ⟨?_,?_,e,f,?_,?_,fun _ _=>by omega⟩
   ·rw [Nat.pow_succ,Nat.mul_comm (10 ^ p2),<-Nat.mul_assoc]
    exact Nat.le_trans (Nat.mul_le_mul_right _ (by omega)) a
   ·rw [Nat.pow_succ,Nat.mul_comm (10 ^ p2),<-Nat.mul_assoc]
    exact Nat.lt_of_lt_of_le b (Nat.mul_le_mul_right _ (by omega))
   ·rw [List.take_succ_cons,List.cons_append,<-g]
   ·rw [List.length_cons];omega
  ·rw [if_neg h]
   refine ⟨by simp,by simp,hn,fun h9=>absurd h9 h,by simp,by simp,fun _ h9=>absurd (Nat.div_eq_of_lt h9) h⟩
theorem fill_spec (k:Nat):∀(f n:Nat),0<n->n<10 * 2 ^ k->2 ^ k<=n * 10 ^ f->(Cw k f n).1=n * 10 ^ (Cw k f n).2/\2 ^ k<=(Cw k f n).1/\(Cw k f n).1<10 * 2 ^ k/\(2 ^ k<=n->(Cw k f n).2=0)
 | 0,n,h0,h1,h2=>by
  simp only [Nat.pow_zero,Nat.mul_one] at h2;simp [Cw,h1,h2]
 | f+1,n,h0,h1,h2=>by
  have hk:=Nat.two_pow_pos k;unfold Cw;by_cases h:n / 2 ^ k=0
  ·have hlt:n<2 ^ k:=by
    rcases Nat.lt_or_ge n (2 ^ k) with h9 | h9
    ·exact h9
    ·have:=Nat.div_pos h9 hk;omega
   rw [if_pos h];obtain ⟨a,b,c,_⟩:=fill_spec k f (n * 10) (by omega) (by omega) (by rw [Nat.pow_succ,Nat.mul_comm (10 ^ f),<-Nat.mul_assoc] at h2;exact h2);generalize Cw k f (n * 10)=p at *;obtain ⟨p1,p2⟩:=p;dsimp only at *;refine ⟨?_,b,c,fun h9=>by omega⟩;rw [a,Nat.pow_succ,Nat.mul_comm (10 ^ p2),<-Nat.mul_assoc]
  ·rw [if_neg h]
   have d:2 ^ k<=n:=by
    rcases Nat.lt_or_ge n (2 ^ k) with h9 | h9
    ·exact absurd (Nat.div_eq_of_lt h9) h
    ·exact h9
   exact ⟨by simp,d,h1,fun _=>rfl⟩
theorem dg8_isD {n:Nat} (h:n<10):isD (dg8 n)=true:=by unfold isD dg8;rw [C6 h];simp;omega
theorem dg8_dv {n:Nat} (h:n<10):dv (dg8 n)=n:=by unfold dv dg8;rw [C6 h];omega
theorem div_ten {n k:Nat} (h:n<10 * 2 ^ k):n / 2 ^ k<10:=(Nat.div_lt_iff_lt_mul (Nat.two_pow_pos k)).2 h
theorem next_lt {n k c:Nat} (h:c<=9):n % 2 ^ k * 10+c<10 * 2 ^ k:=by
 have:=Nat.mod_lt n (Nat.two_pow_pos k);omega
theorem out_spec (k:Nat):∀(l:List UInt8) (n:Nat),(∀c∈l,isD c=true)->n<10 * 2 ^ k->(∀c∈(outR k n l).1,isD c=true)/\(outR k n l).2<10 * 2 ^ k/\(outR k n l).1.length=l.length
 | [],n,_,hn=>by simp [outR,hn]
 | c :: l,n,hd,hn=>by
  have hc:=Gd (hd c (List.mem_cons_self ..));obtain ⟨a,b,e⟩:=out_spec k l (n % 2 ^ k * 10+dv c) (fun x hx=>hd x (List.mem_cons_of_mem _ hx)) (next_lt hc);unfold outR;refine ⟨fun x hx=>?_,b,by simp [e]⟩;rcases List.mem_cons.1 hx with h | h
  ·rw [h];exact dg8_isD (div_ten hn)
  ·exact a x h
theorem tail_isD (k:Nat):∀(f n:Nat),n<10 * 2 ^ k->∀c∈Cs k f n,isD c=true
 | 0,_,_=>fun c hc=>by cases hc
 | f+1,n,hn=>fun c hc=>by
  unfold Cs at hc;split at hc
  ·cases hc
  ·rcases List.mem_cons.1 hc with h | h
   ·rw [h];exact dg8_isD (div_ten hn)
   ·exact tail_isD k f _ (next_lt (c:=0) (by omega)) c h
theorem ten_fill {k:Nat} (hk:k<=60) {n:Nat} (hn:0<n):2 ^ k<=n * 10 ^ 20:=by
 have h1:2 ^ k<=2 ^ 60:=Nat.pow_le_pow_right (by decide) hk;have h2:(2:Nat) ^ 60<=10 ^ 20:=by decide
 exact Nat.le_trans h1 (Nat.le_trans h2 (Nat.le_mul_of_pos_left _ hn))
theorem rs_good {d:Dec} (h:d.Good) {k:Nat} (hk0:1<=k) (hk:k<=60):(rsD k d).Good/\(rsD k d).dp=d.dp - ((rsP k d).2.1+(rsF k d).2:Nat)+1/\Lib.nDigits (2 ^ k)<=(rsP k d).2.1+(rsF k d).2 /\
  (rsP k d).2.1+(rsF k d).2<=Lib.nDigits (2 ^ k)+1/\0<(rsP k d).1/\2 ^ k<=(rsF k d).1/\(rsF k d).1<10 * 2 ^ k /\
  ∃c l c' l', d.L=c :: l/\(rsD k d).L=c' :: l' /\ 1<=dv c/\dv c<=9/\dv c' = (rsF k d).1 / 2 ^ k/\1<=dv c' /\ dv c' <= 9/\((rsP k d).2.1+(rsF k d).2=1->(rsF k d).1=dv c):=by
 obtain ⟨c,l,e,hc⟩:=h.head;have hd:=h.dig;rw [e] at hd;obtain ⟨a1,a2,_,_⟩:=head_val hd hc;have h2:=Nat.two_pow_pos k;have h2k:2<=2 ^ k:=by have:2 ^ 1<=2 ^ k:=Nat.pow_le_pow_right (by decide) hk0;simpa using this
 have hP:rsP k d=((A8 k (dv c) l).1,(A8 k (dv c) l).2.1+1,(A8 k (dv c) l).2.2):=by
  unfold rsP;rw [e,A8,if_pos (Nat.zero_div _),Nat.zero_mul,Nat.zero_add]
 have hF:rsF k d=Cw k 20 (A8 k (dv c) l).1:=by unfold rsF;rw [hP]
 have o:rsO k d=(outR k (rsF k d).1 (A8 k (dv c) l).2.2).1++Cs k (k+2) (outR k (rsF k d).1 (A8 k (dv c) l).2.2).2:=by unfold rsO;rw [hP]
 have s:∀x∈l,isD x=true:=fun x hx=>hd x (List.mem_cons_of_mem _ hx);obtain ⟨p1,p2,p3,p4,p5,p6,p7⟩:=pick_spec k l (dv c) s (by omega);generalize A8 k (dv c) l=p at *;obtain ⟨n,j,g⟩:=p;dsimp only at *;have q:0<n:=Nat.lt_of_lt_of_le (Nat.mul_pos (by omega) (Nat.pow_pos (by decide))) p1;obtain ⟨f1,f2,f3,f4⟩:=fill_spec k 20 n q p3 (ten_fill hk q);rw [<-hF] at f1 f2 f3 f4;obtain ⟨N,hN⟩:∃N,N=(rsF k d).1:=⟨_,rfl⟩;obtain ⟨i,hi⟩:∃i,i=(rsF k d).2:=⟨_,rfl⟩;rw [<-hN] at f1 f2 f3 o;rw [<-hi] at f1 f4;rw [<-hN,<-hi];have t:∀x∈g,isD x=true:=fun x hx=>s x (by rw [p5];exact List.mem_append_right _ hx);obtain ⟨o1,o2,o3⟩:=out_spec k g N t f3;have f:=div_ten f3;have u:1<=N / 2 ^ k:=Nat.div_pos f2 h2;have r:∃l', rsO k d=dg8 (N / 2 ^ k) :: l' := by
  rw [o];cases g with
  | nil=>
   refine ⟨Cs k (k+1) (N % 2 ^ k * 10),?_⟩;show []++Cs k (k+1+1) N=_;rw [List.nil_append,Cs,if_neg (by omega)]
  | cons b g=>exact ⟨_,rfl⟩
 obtain ⟨l', hO⟩:=r;have v:∀b∈rsO k d,isD b=true:=by
  rw [o];intro b hb;rcases List.mem_append.1 hb with h9 | h9
  ·exact o1 b h9
  ·exact tail_isD k _ _ o2 b h9
 have y:dg8 (N / 2 ^ k)≠48:=by
  intro e9;have:=dg8_dv f;rw [e9] at this;have:dv 48=0:=by decide
  omega
 obtain ⟨g1,g2,m,g3⟩:=good_trim hO v y (d.dp - ((rsP k d).2.1+i:Nat)+1) (d.tr || ((rsO k d).drop 800).any (· != 48))
 have hD:rsD k d=Ge ((rsO k d).take 800) (d.dp - ((rsP k d).2.1+i:Nat)+1) (d.tr || ((rsO k d).drop 800).any (· != 48)):=by
  unfold rsD;rw [<-hi]
 rw [hP] at g2 hD g1 g3;dsimp only at g2 hD g1 g3;rw [hD,hP];dsimp only;have z:N<10 ^ (j+1+i):=by
  rw [f1,Nat.pow_add,Nat.pow_succ];refine Nat.mul_lt_mul_of_pos_right ?_ (Nat.pow_pos (by decide));refine Nat.lt_of_lt_of_le p2 ?_;rw [Nat.mul_comm];exact Nat.mul_le_mul_left _ (by omega)
 have hlo:10 ^ (j+i)<=N:=by
  rw [f1,Nat.pow_add];refine Nat.mul_le_mul_right _ (Nat.le_trans ?_ p1);exact Nat.le_mul_of_pos_left _ a1
 obtain ⟨d1,d2,d3⟩:=Et h2;have r1:Lib.nDigits (2 ^ k)<=j+1+i:=by
  have:=(Nat.pow_lt_pow_iff_right (a:=10) (by decide)).1 (Nat.lt_of_le_of_lt d2 (Nat.lt_of_le_of_lt f2 z));omega
 have r2:j+i<=Lib.nDigits (2 ^ k):=by
  have:10 ^ (j+i)<10 ^ (Lib.nDigits (2 ^ k)+1):=by
   rw [Nat.pow_succ];omega
  have:=(Nat.pow_lt_pow_iff_right (a:=10) (by decide)).1 this;omega
 refine ⟨g1,g2,r1,by omega,q,f2,f3,c,l,dg8 (N / 2 ^ k),m,e,g3,a1,a2,dg8_dv f,by rw [dg8_dv f];exact u,by rw [dg8_dv f];omega,fun h9=>?_⟩;have aa:j=0:=by omega
 have ab:i=0:=by omega
 rw [f1,ab,Nat.pow_zero,Nat.mul_one];rw [aa,Nat.pow_zero,Nat.mul_one] at p1 p2;omega
def ptL:List Nat:=[1,3,6,9,13,16,19,23,26]
def pt (n:Nat):Nat:=ptL.getD n 27
theorem pt_tab:∀n:Fin 9,1<=pt n.val/\pt n.val<=26/\Db (pt n.val)=max 1 n.val/\(1<=n.val->Lib.nDigits (2 ^ pt n.val)=n.val):=by decide +kernel
theorem pt_big {n:Nat} (h:9<=n):pt n=27:=by
 unfold pt;rw [List.getD_eq_getElem?_getD,List.getElem?_eq_none (by show 9<=n;exact h)];rfl
theorem pt27:Db 27=9/\Lib.nDigits (2 ^ 27)=9:=by decide +kernel
theorem pt_spec (n:Nat):1<=pt n/\pt n<=27/\Db (pt n)=max 1 (min n 9)/\(1<=n->Lib.nDigits (2 ^ pt n)=min n 9):=by
 rcases Nat.lt_or_ge n 9 with h | h
 ·obtain ⟨a,b,c,d⟩:=pt_tab ⟨n,h⟩
  dsimp only at a b c d;refine ⟨a,by omega,by rw [c];omega,fun h1=>by rw [d h1];omega⟩
 ·rw [pt_big h]
  exact ⟨by decide,by decide,by rw [pt27.1];omega,fun _=>by rw [pt27.2];omega⟩
def D7 (d:Dec):Nat:=dv (d.L.headD 48)
def mR (d:Dec):Nat:=if 0<d.dp then 2 * d.dp.toNat+(if 8<=D7 d then 1 else 0) else 0
def mL (d:Dec):Nat:=if d.dp<=0 then 10 * (-d.dp).toNat+(10 - D7 d) else 0
def lowQ (d:Dec):Prop:=d.dp<0\/(d.dp=0/\D7 d<5)
instance (d:Dec):Decidable (lowQ d):=by unfold lowQ;infer_instance
theorem mR_step {d:Dec} (h:d.Good) (h0:0<d.dp):(rsD (pt d.dp.toNat) d).Good/\mR (rsD (pt d.dp.toNat) d)<mR d/\0<=(rsD (pt d.dp.toNat) d).dp:=by
 obtain ⟨n,hn⟩:∃n,d.dp.toNat=n:=⟨_,rfl⟩;have hdp:d.dp=n:=by omega
 rw [hn];obtain ⟨p1,p2,_,p4⟩:=pt_spec n;obtain ⟨g,g1,g2,g3,_,g5,g6,c,l,c', l', e,e', a1,a2,a3,a4,a5,a6⟩:=rs_good h p1 (by omega);rw [p4 (by omega)] at g2 g3;have hh:D7 d=dv c:=by unfold D7;rw [e];rfl
 have a : D7 (rsD (pt n) d)=dv c' := by unfold D7;rw [e'];rfl
 refine ⟨g,?_,by rw [g1];omega⟩;unfold mR;rw [hh,a, if_pos h0,g1];by_cases h2:2<=n
 ·split<;>(try split)<;>(try split)<;>omega
 ·have h1:n=1:=by omega
  subst h1;have h8:(2:Nat) ^ pt 1=8:=by decide
  rw [h8] at g5 a3;by_cases hr:(rsP (pt 1) d).2.1+(rsF (pt 1) d).2=1
  ·have:=a6 hr
   rw [hr,if_pos (by omega),if_neg (by omega),if_pos (by omega)];omega
  ·rw [if_neg (by omega)]
   omega
theorem mL_step {d:Dec} (h:d.Good) (h0:lowQ d):(lsD (pt (-d.dp).toNat) d).Good/\mL (lsD (pt (-d.dp).toNat) d)<mL d/\(lsD (pt (-d.dp).toNat) d).dp<=0/\d.dp<=(lsD (pt (-d.dp).toNat) d).dp:=by
 obtain ⟨n,hn⟩:∃n,(-d.dp).toNat=n:=⟨_,rfl⟩;have i:d.dp<=0:=by rcases h0 with h0 | h0<;>omega
 have hdp:d.dp=-(n:Int):=by omega
 rw [hn];obtain ⟨p1,p2,p3,_⟩:=pt_spec n;obtain ⟨g,g1,g2,c,l,c', l', e,e', a1,a2,a3,a4,a5⟩:=ls_good h (pt n);have hl:=ls_len h (pt n);rw [p3] at hl;have hh:D7 d=dv c:=by unfold D7;rw [e];rfl
 have j : D7 (lsD (pt n) d)=dv c' := by unfold D7;rw [e'];rfl
 have hn0:n=0->(lsO (pt n) d).length=d.L.length:=by
  intro hz;subst hz;have a:D7 d<5:=by rcases h0 with h0 | h0<;>omega
  rw [hh] at a;have f:=h.dig c (by rw [e];exact List.mem_cons_self ..);have k:A3 d.L (Lib.decDigits (5 ^ pt 0))=true:=by
   rw [show Lib.decDigits (5 ^ pt 0)=[53] by decide +kernel,e];unfold isD at f;simp only [Bool.and_eq_true,decide_eq_true_eq] at f;unfold dv at a;unfold A3;have m:c≠53:=fun e9=>by rw [e9] at a;exact absurd a (by decide)
   rw [if_neg m];exact decide_eq_true (show c.toNat<53 by omega)
  rw [k] at hl;simp only [if_true] at hl;omega
 have hif:(if A3 d.L (Lib.decDigits (5 ^ pt n)) then 1 else 0)<=1:=by split<;>omega
 have o:2<=2 ^ pt n:=by have:2 ^ 1<=2 ^ pt n:=Nat.pow_le_pow_right (by decide) p1;simpa using this
 generalize (lsO (pt n) d).length=T at *;generalize (if A3 d.L (Lib.decDigits (5 ^ pt n)) then 1 else 0)=b at *;refine ⟨g,?_,by rw [g1];omega,by rw [g1];omega⟩;unfold mL;rw [hh,j, if_pos i,g1,if_pos (by omega),hn];by_cases ht:T=d.L.length
 ·have h9:=a5 ht
  have h10:dv c * 2<=dv c * 2 ^ pt n:=Nat.mul_le_mul_left _ o;omega
 ·omega
def A2:Nat->Dec->Int->Dec × Int
 | 0,d,e=>(d,e)
 | f+1,d,e=>if 0<d.dp then A2 f (rsD (pt d.dp.toNat) d) (e+pt d.dp.toNat) else (d,e)
def B7:Nat->Dec->Int->Dec × Int
 | 0,d,e=>(d,e)
 | f+1,d,e=>if lowQ d then B7 f (lsD (pt (-d.dp).toNat) d) (e - pt (-d.dp).toNat) else (d,e)
theorem scaleR_out {f:Nat} {d:Dec} {e:Int} (h:¬0<d.dp):A2 f d e=(d,e):=by
 cases f with
 | zero=>rfl
 | succ f=>rw [A2,if_neg h]
theorem scaleL_out {f:Nat} {d:Dec} {e:Int} (h:¬lowQ d):B7 f d e=(d,e):=by
 cases f with
 | zero=>rfl
 | succ f=>rw [B7,if_neg h]
theorem scaleR_good:∀(f:Nat) (d:Dec) (e:Int),d.Good->mR d<=f->(A2 f d e).1.Good/\(A2 f d e).1.dp<=0/\min d.dp 0<=(A2 f d e).1.dp/\e<=(A2 f d e).2/\(A2 f d e).2<=e+27 * f
 | 0,d,e,h,hm=>by
  have:¬0<d.dp:=fun h0=>by unfold mR at hm;rw [if_pos h0] at hm;omega
  simp only [A2];exact ⟨h,by omega,by omega,by omega,by omega⟩
 | f+1,d,e,h,hm=>by
  unfold A2;by_cases h0:0<d.dp
  ·rw [if_pos h0]
   obtain ⟨a,b,c⟩:=mR_step h h0;obtain ⟨p1,p2,_⟩:=pt_spec d.dp.toNat;obtain ⟨x,y,z,u,v⟩:=scaleR_good f _ (e+pt d.dp.toNat) a (by omega);exact ⟨x,y,by omega,by omega,by omega⟩
  ·rw [if_neg h0]
   exact ⟨h,by dsimp only;omega,by dsimp only;omega,by dsimp only;omega,by dsimp only;omega⟩
theorem scaleL_good:∀(f:Nat) (d:Dec) (e:Int),d.Good->d.dp<=0->mL d<=f->(B7 f d e).1.Good/\(B7 f d e).1.dp<=0/\d.dp<=(B7 f d e).1.dp/\(B7 f d e).2<=e/\e - 27 * f<=(B7 f d e).2
 | 0,d,e,h,hp,hm=>by
  simp only [B7];exact ⟨h,hp,by omega,by omega,by omega⟩
 | f+1,d,e,h,hp,hm=>by
  unfold B7;by_cases h0:lowQ d
  ·rw [if_pos h0]
   obtain ⟨a,b,c,c2⟩:=mL_step h h0;obtain ⟨p1,p2,_⟩:=pt_spec (-d.dp).toNat;obtain ⟨x,y,z,u,v⟩:=scaleL_good f _ (e - pt (-d.dp).toNat) a c (by omega);exact ⟨x,y,by omega,by omega,by omega⟩
  ·rw [if_neg h0]
   exact ⟨h,hp,by dsimp only;omega,by dsimp only;omega,by dsimp only;omega⟩
def shR:Nat->Nat->Dec->Dec
 | 0,n,d=>rsD n d
 | f+1,n,d=>if 60<n then shR f (n - 60) (rsD 60 d) else rsD n d
theorem rs_dp {d:Dec} (h:d.Good) {k:Nat} (hk0:1<=k) (hk:k<=60):(rsD k d).Good/\(rsD k d).dp<=d.dp/\d.dp - 20<=(rsD k d).dp:=by
 obtain ⟨g,g1,g2,g3,_⟩:=rs_good h hk0 hk;have h1:=(Et (Nat.two_pow_pos k)).1;have h2:Lib.nDigits (2 ^ k)<=19:=by
  refine Da (Nat.two_pow_pos k) ?_;have:2 ^ k<=2 ^ 60:=Nat.pow_le_pow_right (by decide) hk;have:(2:Nat) ^ 60<10 ^ 19:=by decide
  omega
 exact ⟨g,by omega,by omega⟩
theorem shR_good:∀(f n:Nat) (d:Dec),d.Good->1<=n->n<=60 * (f+1)->(shR f n d).Good/\(shR f n d).dp<=d.dp/\d.dp - 20 * (f+1)<=(shR f n d).dp
 | 0,n,d,h,h1,h2=>by
  obtain ⟨a,b,c⟩:=rs_dp h h1 (by omega);exact ⟨a,b,by unfold shR;omega⟩
 | f+1,n,d,h,h1,h2=>by
  unfold shR;by_cases h0:60<n
  ·rw [if_pos h0]
   obtain ⟨a,b,c⟩:=rs_dp h (k:=60) (by decide) (by decide);obtain ⟨x,y,z⟩:=shR_good f (n - 60) _ a (by omega) (by omega);exact ⟨x,by omega,by omega⟩
  ·rw [if_neg h0]
   obtain ⟨a,b,c⟩:=rs_dp h h1 (by omega);exact ⟨a,b,by omega⟩
def upQ (d:Dec) (nd:Int):Bool:=
 if nd<0\/(d.L.length:Int)<=nd then false
 else if d.L.getD nd.toNat 0=53/\nd+1=d.L.length then
  (if d.tr then true else decide (0<nd) && decide (dv (d.L.getD (nd - 1).toNat 0) % 2=1))
 else decide (53<=(d.L.getD nd.toNat 0).toNat)
def rndI (d:Dec):Nat:=valD (d.L.take d.dp.toNat) * 10 ^ (d.dp.toNat - d.L.length)+(upQ d d.dp).toNat
def fbM (d:Dec):Option (Nat × Int):=
 if d.L=[] then some (0,-1023)
 else if 310<d.dp then none
 else if d.dp < -330 then some (0,-1023)
 else
  let a:=A2 (mR d) d 0
  let b:=B7 (mL a.1) a.1 a.2
  let e:=b.2 - 1
  let c:=if e < -1022 then shR 2000 (-1022 - e).toNat b.1 else b.1
  let e2:=if e < -1022 then -1022 else e
  if 1024<=e2 then none
  else
   let m:=rndI (lsD 53 c)
   if m=9007199254740992 then (if 1024<=e2+1 then none else some (4503599627370496,e2+1))
   else some (m,if m / 4503599627370496 % 2=0 then -1023 else e2)
def fbR (d:Dec):Nat:=match fbM d with
 | none=>9218868437227405312
 | some (m,e)=>m % 4503599627370496+(e+1023).toNat * 4503599627370496
theorem cheat53:Db 53=16:=by decide +kernel
theorem fb_bounds {d:Dec} (h:d.Good) (h1:d.dp<=310) (h2:-330<=d.dp):mR d<=621/\(A2 (mR d) d 0).1.Good/\(A2 (mR d) d 0).1.dp<=0/\-330<=(A2 (mR d) d 0).1.dp/\0<=(A2 (mR d) d 0).2/\(A2 (mR d) d 0).2<=16767 /\
  mL (A2 (mR d) d 0).1<=3310/\(B7 (mL (A2 (mR d) d 0).1) (A2 (mR d) d 0).1 (A2 (mR d) d 0).2).1.Good/\(B7 (mL (A2 (mR d) d 0).1) (A2 (mR d) d 0).1 (A2 (mR d) d 0).2).1.dp<=0 /\
  -330<=(B7 (mL (A2 (mR d) d 0).1) (A2 (mR d) d 0).1 (A2 (mR d) d 0).2).1.dp/\-89370<=(B7 (mL (A2 (mR d) d 0).1) (A2 (mR d) d 0).1 (A2 (mR d) d 0).2).2/\(B7 (mL (A2 (mR d) d 0).1) (A2 (mR d) d 0).1 (A2 (mR d) d 0).2).2<=16767:=by
 have m1:mR d<=621:=by unfold mR;split<;>(try split)<;>omega
 obtain ⟨a,b,c,e,f⟩:=scaleR_good (mR d) d 0 h (Nat.le_refl _);generalize A2 (mR d) d 0=s at *;obtain ⟨s1,s2⟩:=s;dsimp only at *;have m2:mL s1<=3310:=by unfold mL;split<;>omega
 obtain ⟨a', b', c', e', f'⟩:=scaleL_good (mL s1) s1 s2 a b (Nat.le_refl _);exact ⟨m1,a,b,by omega,e,by omega,m2,a', b', by omega,by omega,by omega⟩
theorem rnd_lt {d:Dec} (h:d.Good) (hp:d.dp<=16):rndI d<=10 ^ 16:=by
 unfold rndI;have h1:(upQ d d.dp).toNat<=1:=by cases upQ d d.dp<;>decide
 obtain ⟨p,hp'⟩:∃p,d.dp.toNat=p:=⟨_,rfl⟩;rw [hp'];have hv:=Du (l:=d.L.take p) (fun c hc=>h.dig c (List.mem_of_mem_take hc));rw [List.length_take] at hv;have h2:valD (d.L.take p) * 10 ^ (p - d.L.length)<10 ^ min p d.L.length * 10 ^ (p - d.L.length):=Nat.mul_lt_mul_of_pos_right hv (Nat.pow_pos (by decide));rw [<-Nat.pow_add,show min p d.L.length+(p - d.L.length)=p by omega] at h2;have h3:(10:Nat) ^ p<=10 ^ 16:=Nat.pow_le_pow_right (by decide) (by omega);omega
theorem fb_lt (d:Dec) (h:d.L=[]\/d.Good):fbR d<=9218868437227405312/\(fbM d=none ↔ fbR d=9218868437227405312):=by
 have a:∀m e,fbM d=some (m,e)->e<1024:=by
  intro m e;unfold fbM;by_cases h0:d.L=[]
  ·rw [if_pos h0];intro h9;cases h9;decide
  rw [if_neg h0];by_cases h1:310<d.dp
  ·rw [if_pos h1];intro h9;cases h9
  rw [if_neg h1];by_cases h2:d.dp < -330
  ·rw [if_pos h2];intro h9;cases h9;decide
  rw [if_neg h2];dsimp only;generalize B7 _ _ _=b;obtain ⟨b1,b2⟩:=b;dsimp only;generalize (if b2 - 1 < -1022 then shR 2000 (-1022 - (b2 - 1)).toNat b1 else b1)=c;generalize he2:(if b2 - 1 < -1022 then -1022 else b2 - 1)=e2;by_cases h3:1024<=e2
  ·rw [if_pos h3];intro h9;cases h9
  rw [if_neg h3];generalize rndI (lsD 53 c)=k;by_cases h4:k=9007199254740992
  ·rw [if_pos h4]
   by_cases h5:1024<=e2+1
   ·rw [if_pos h5];intro h9;cases h9
   ·rw [if_neg h5];intro h9;cases h9;omega
  ·rw [if_neg h4];intro h9;cases h9;split<;>omega
 unfold fbR;cases hm:fbM d with
 | none=>simp
 | some p=>
  obtain ⟨m,e⟩:=p;have:=a m e hm;dsimp only;refine ⟨by omega,⟨(fun h9=>by cases h9),(fun h9=>by omega)⟩⟩
