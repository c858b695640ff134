/- The texts of floats, as bytes: sign, digits, exponent (no program in sight). -/
import Derived.Test.YtagkgfniihiinaaGreatDoorJ69
import Derived.Lib.ItoaNum
set_option linter.all false
namespace Go.Proofs.YtagkgfniihiinaaGreatDoor
def dg8 (n:Nat):UInt8:=UInt8.ofNat (48+n)
def signL (neg:Bool):List UInt8:=if neg then [45] else []
def Bg (l:List UInt8):List UInt8:=(l.reverse.dropWhile (· == 48)).reverse
theorem Cl {n:Nat} (h:n<10):(UInt8.ofNat (48+n)).toNat=48+n:=by rw [UInt8.toNat_ofNat'];omega
theorem dec_isD (u:Nat):∀c∈Lib.decDigits u,isD c=true:=by
 induction u using Nat.strongRecOn with
 | _ u ih=>
   intro c hc;rw [Lib.decDigits] at hc;have key:∀n:Nat,n<10->isD (UInt8.ofNat (48+n))=true:=fun n h=>by unfold isD;rw [Cl h];simp;omega
   by_cases h:u<10
   · rw [dif_pos h,List.mem_singleton] at hc
     rw [hc];exact key u h
   · rw [dif_neg h,List.mem_append,List.mem_singleton] at hc
     rcases hc with hc | hc
     · exact ih (u / 10) (by omega) c hc
     · rw [hc];exact key _ (Nat.mod_lt _ (by decide))
theorem dec_val (u:Nat):valD (Lib.decDigits u)=u:=by
 induction u using Nat.strongRecOn with
 | _ u ih=>
   have key:∀n:Nat,n<10->dv (UInt8.ofNat (48+n))=n:=fun n h=>by unfold dv;rw [Cl h];omega
   rw [Lib.decDigits];by_cases h:u<10
   · rw [dif_pos h,C8,key u h];simp [valD]
   · rw [dif_neg h,valD_snoc,ih (u / 10) (by omega),key _ (Nat.mod_lt _ (by decide))];omega
theorem dec_head:∀{u:Nat},0<u->∃c l,Lib.decDigits u=c :: l/\c≠48:=by
 intro u;induction u using Nat.strongRecOn with
 | _ u ih=>
   intro h0;rw [Lib.decDigits];by_cases h:u<10
   · rw [dif_pos h]
     refine ⟨_,_,rfl,fun e=>?_⟩;have:=congrArg UInt8.toNat e;rw [Cl h] at this;have e8:(48:UInt8).toNat=48:=rfl;omega
   · rw [dif_neg h]
     obtain ⟨c,l,h1,h2⟩:=ih (u / 10) (by omega) (by omega);rw [h1];exact ⟨c,_,rfl,h2⟩
theorem Fm (l:List UInt8):∃n,l=Bg l++List.replicate n 48:=by
 refine ⟨(l.reverse.takeWhile (· == 48)).length,?_⟩
 have h:=List.takeWhile_append_dropWhile (p:=fun c:UInt8=>c == 48) (l:=l.reverse);have h2:l.reverse.takeWhile (· == 48)=List.replicate (l.reverse.takeWhile (· == 48)).length 48:=by
   rw [List.eq_replicate_iff];refine ⟨rfl,fun b hb=>?_⟩;have key:∀(m:List UInt8) (b:UInt8),b∈m.takeWhile (· == 48)->b=48:=by
     intro m;induction m with
     | nil=>intro b h;simp at h
     | cons a m ih=>
       intro b h;rw [List.takeWhile_cons] at h;split at h
       · rename_i ha
         rcases List.mem_cons.1 h with h | h
         · rw [h];simpa using ha
         · exact ih b h
       · simp at h
   exact key _ b hb
 have h3:=congrArg List.reverse h;rw [List.reverse_reverse,List.reverse_append] at h3
 conv=>lhs;rw [<-h3]
 unfold Bg;congr 1;rw [h2,List.reverse_replicate,List.length_replicate]
theorem stripZ_mem {l:List UInt8} {c:UInt8} (h:c∈Bg l):c∈l:=by
 obtain ⟨n,hn⟩:=Fm l;rw [hn];exact List.mem_append_left _ h
theorem stripZ_len (l:List UInt8):(Bg l).length<=l.length:=by
 obtain ⟨n,hn⟩:=Fm l;have:=congrArg List.length hn;rw [List.length_append] at this;omega
theorem stripZ_take (l:List UInt8):Bg l=l.take (Bg l).length:=by
 obtain ⟨n,hn⟩:=Fm l;have h:(Bg l++List.replicate n 48).take (Bg l).length=Bg l:=List.take_left ..;rw [<-hn] at h;exact h.symm
def Az:List UInt8->List UInt8->Bool
 | _,[]=>false
 | [],_ :: _=>true
 | a :: l,b :: m=>if a=b then Az l m else decide (a.toNat<b.toNat)
def Cv (k:Nat):Nat:=k+1 - Lib.nDigits (5 ^ k)
theorem isD_dv {c d:UInt8} (hc:isD c=true) (hd:isD d=true):(c=d ↔ dv c=dv d)/\(c.toNat<d.toNat ↔ dv c<dv d):=by
 unfold isD at hc hd;simp only [Bool.and_eq_true,decide_eq_true_eq] at hc hd;unfold dv;refine ⟨⟨fun e=>by rw [e],fun e=>UInt8.toNat_inj.1 (by omega)⟩,by omega⟩
theorem lex_val:∀{L C:List UInt8},(∀c∈L,isD c=true)->(∀c∈C,isD c=true)->(∀a b,C=a++b->b≠[]->0<valD b) ->
   (Az L C=true ↔ valD L * 10 ^ C.length<valD C * 10 ^ L.length)
 | L,[],_,_,_=>by
   unfold Az;simp [valD]
 | [],b :: m,_,_,hz=>by
   unfold Az;have:=hz [] (b :: m) rfl (by simp);simp only [List.length_nil,Nat.pow_zero,Nat.mul_one,true_iff];rw [show valD []=0 from rfl,Nat.zero_mul];exact this
 | a :: l,b :: m,hL,hC,hz=>by
   have ha:=hL a (List.mem_cons_self ..);have hb:=hC b (List.mem_cons_self ..);have hl:=C7 (l:=l) (fun x hx=>hL x (List.mem_cons_of_mem _ hx));have hm:=C7 (l:=m) (fun x hx=>hC x (List.mem_cons_of_mem _ hx));obtain ⟨e1,e2⟩:=isD_dv ha hb
   have ih:=lex_val (L:=l) (C:=m) (fun x hx=>hL x (List.mem_cons_of_mem _ hx)) (fun x hx=>hC x (List.mem_cons_of_mem _ hx))
     (fun p q h hq=>hz (b :: p) q (by rw [h];rfl) hq)
   have hp1:0<10 ^ l.length:=Nat.pow_pos (by decide);have hp2:0<10 ^ m.length:=Nat.pow_pos (by decide);unfold Az;rw [C8,C8,List.length_cons,List.length_cons,Nat.pow_succ,Nat.pow_succ];generalize 10 ^ l.length=P at *;generalize 10 ^ m.length=Q at *;generalize valD l=x at *;generalize valD m=y at *;by_cases h:a=b
   · rw [if_pos h,ih,e1.1 h]
     rw [Nat.add_mul,Nat.add_mul];have k1:dv b * P * (Q * 10)=dv b * Q * (P * 10):=by simp only [Nat.mul_assoc,Nat.mul_left_comm,Nat.mul_comm]
     have k2:x * (Q * 10)=x * Q * 10:=by simp only [Nat.mul_assoc]
     have k3:y * (P * 10)=y * P * 10:=by simp only [Nat.mul_assoc]
     omega
   · rw [if_neg h,decide_eq_true_iff,e2]
     have hne:dv a≠dv b:=fun e=>h (e1.2 e);generalize dv a=u at *;generalize dv b=v at *;constructor
     · intro hlt
       have k1:(u * P+x) * (Q * 10)<(u+1) * P * (Q * 10):=Nat.mul_lt_mul_of_pos_right (by rw [Nat.add_mul];omega) (by omega);have k2:(u+1) * P * (Q * 10)<=v * P * (Q * 10):=Nat.mul_le_mul_right _ (Nat.mul_le_mul_right _ hlt);have k3:v * P * (Q * 10)=v * Q * (P * 10):=by simp only [Nat.mul_assoc,Nat.mul_left_comm,Nat.mul_comm]
       have k4:v * Q * (P * 10)<=(v * Q+y) * (P * 10):=Nat.mul_le_mul_right _ (Nat.le_add_right _ _);omega
     · intro hlt
       rcases Nat.lt_or_ge u v with h9 | h9
       · exact h9
       · exfalso
         have k1:(v * Q+y) * (P * 10)<(v+1) * Q * (P * 10):=Nat.mul_lt_mul_of_pos_right (by rw [Nat.add_mul];omega) (by omega);have k2:(v+1) * Q * (P * 10)<=u * Q * (P * 10):=Nat.mul_le_mul_right _ (Nat.mul_le_mul_right _ (by omega));have k3:u * Q * (P * 10)=u * P * (Q * 10):=by simp only [Nat.mul_assoc,Nat.mul_left_comm,Nat.mul_comm]
         have k4:u * P * (Q * 10)<=(u * P+x) * (Q * 10):=Nat.mul_le_mul_right _ (Nat.le_add_right _ _);omega
theorem Dp {v:Nat} (h:0<v):1<=Lib.nDigits v/\10 ^ (Lib.nDigits v - 1)<=v/\v<10 ^ Lib.nDigits v:=by
 induction v using Nat.strongRecOn with
 | _ v ih=>
   by_cases h1:v<10
   · rw [Lib.nDigits_small h1];exact ⟨by decide,by simp;omega,by simpa using h1⟩
   · rw [Lib.nDigits_big h1]
     obtain ⟨a,b,c⟩:=ih (v / 10) (by omega) (by omega);generalize Lib.nDigits (v / 10)=n at *;refine ⟨by omega,?_,?_⟩
     · obtain ⟨m,rfl⟩:∃m,n=m+1:=⟨n - 1,by omega⟩
       rw [Nat.add_sub_cancel] at *;rw [Nat.pow_succ];omega
     · rw [Nat.pow_succ];omega
theorem Cx {v n:Nat} (h:0<v) (hn:v<10 ^ n):Lib.nDigits v<=n:=by
 obtain ⟨a,b,_⟩:=Dp h;have:=(Nat.pow_lt_pow_iff_right (a:=10) (by decide)).1 (Nat.lt_of_le_of_lt b hn);omega
theorem Ep {v n:Nat} (h:0<v) (hn:10 ^ n<=v):n+1<=Lib.nDigits v:=by
 obtain ⟨a,_,c⟩:=Dp h;have:=(Nat.pow_lt_pow_iff_right (a:=10) (by decide)).1 (Nat.lt_of_le_of_lt hn c);omega
theorem five_len (k:Nat):Lib.nDigits (5 ^ k)<=k+1:=by
 refine Cx (Nat.pow_pos (by decide)) ?_;exact Nat.lt_of_le_of_lt (Nat.pow_le_pow_left (by decide) k) (Nat.pow_lt_pow_right (by decide) (by omega))
theorem five_odd (k:Nat):5 ^ k % 2=1:=by
 induction k with
 | zero=>rfl
 | succ k ih=>rw [Nat.pow_succ];omega
theorem cheat_ok {L:List UInt8} {k:Nat} (hL:∀c∈L,isD c=true) (hv:10 ^ (L.length - 1)<=valD L) (hl:1<=L.length) :
   Lib.nDigits (valD L * 2 ^ k)+(if Az L (Lib.decDigits (5 ^ k)) then 1 else 0)=L.length+Cv k/\(Az L (Lib.decDigits (5 ^ k))=true->1<=L.length+Cv k):=by
 have h5:0<5 ^ k:=Nat.pow_pos (by decide)
 obtain ⟨c0,c1,c2⟩:=Dp h5
 have hlc:=five_len k
 have hlast:∀a b,Lib.decDigits (5 ^ k)=a++b->b≠[]->0<valD b:=by
   intro a b e hb;have hodd:=five_odd k;have:=congrArg valD e;rw [dec_val,D4] at this;rcases Nat.eq_zero_or_pos (valD b) with h | h
   · exfalso
     obtain ⟨m,hm⟩:∃m,b.length=m+1:=⟨b.length - 1,by have:=List.length_pos_iff.2 hb;omega⟩;rw [h,hm,Nat.pow_succ,Nat.add_zero,<-Nat.mul_assoc] at this;omega
   · exact h
 have hlex:=lex_val hL (dec_isD (5 ^ k)) hlast
 rw [dec_val,Lib.decDigits_length] at hlex
 have hD:=C7 hL
 have h10:5 ^ k * 2 ^ k=10 ^ k:=by rw [<-Nat.mul_pow]
 have h2:0<2 ^ k:=Nat.two_pow_pos k
 have hpos:0<valD L * 2 ^ k:=Nat.mul_pos (Nat.lt_of_lt_of_le (Nat.pow_pos (by decide)) hv) h2
 unfold Cv
 obtain ⟨lc,hlcE⟩:∃n,Lib.nDigits (5 ^ k)=n:=⟨_,rfl⟩
 rw [hlcE] at c0 c1 c2 hlc hlex ⊢
 generalize Az L (Lib.decDigits (5 ^ k))=b at *
 generalize valD L=D at *
 generalize L.length=nd at *
 have up:D * 2 ^ k<10 ^ (nd+(k+1 - lc)):=by
   refine Nat.lt_of_mul_lt_mul_right (a:=10 ^ (lc - 1)) ?_;rw [<-Nat.pow_add,show nd+(k+1 - lc)+(lc - 1)=nd+k by omega,Nat.pow_add,<-h10];have k1:D * 2 ^ k * 10 ^ (lc - 1)<=D * 2 ^ k * 5 ^ k:=Nat.mul_le_mul_left _ c1;have k2:D * 2 ^ k * 5 ^ k<10 ^ nd * (5 ^ k * 2 ^ k):=by
     rw [Nat.mul_assoc,Nat.mul_comm (2 ^ k)];exact Nat.mul_lt_mul_of_pos_right hD (Nat.mul_pos h5 h2)
   omega
 cases b
 · have hge:5 ^ k * 10 ^ nd<=D * 10 ^ lc:=by
     rcases Nat.lt_or_ge (D * 10 ^ lc) (5 ^ k * 10 ^ nd) with h | h
     · exact absurd (hlex.2 h) (by decide)
     · exact h
   refine ⟨?_,fun h=>absurd h (by decide)⟩;have lo:10 ^ (nd+k - lc)<=D * 2 ^ k:=by
     refine Nat.le_of_mul_le_mul_right (c:=10 ^ lc) ?_ (Nat.pow_pos (by decide));have k1:=Nat.mul_le_mul_right (2 ^ k) hge;rcases Nat.lt_or_ge (nd+k) lc with h9 | h9
     · omega
     · rw [<-Nat.pow_add,show nd+k - lc+lc=nd+k by omega,Nat.pow_add,<-h10]
       have e1:10 ^ nd * (5 ^ k * 2 ^ k)=5 ^ k * 10 ^ nd * 2 ^ k:=by simp only [Nat.mul_assoc,Nat.mul_left_comm,Nat.mul_comm]
       have e2:D * 2 ^ k * 10 ^ lc=D * 10 ^ lc * 2 ^ k:=by simp only [Nat.mul_assoc,Nat.mul_left_comm,Nat.mul_comm]
       rw [e1,e2];exact k1
   have h1:=Cx hpos up;have h2:=Ep hpos lo;simp only [Bool.false_eq_true,if_false];omega
 · have hlt:=hlex.1 rfl
   refine ⟨?_,fun _=>by omega⟩;have up2:D * 2 ^ k<10 ^ (nd+k - lc):=by
     refine Nat.lt_of_mul_lt_mul_right (a:=10 ^ lc) ?_;rw [<-Nat.pow_add,show nd+k - lc+lc=nd+k by omega,Nat.pow_add,<-h10];have e1:10 ^ nd * (5 ^ k * 2 ^ k)=5 ^ k * 10 ^ nd * 2 ^ k:=by simp only [Nat.mul_assoc,Nat.mul_left_comm,Nat.mul_comm]
     have e2:D * 2 ^ k * 10 ^ lc=D * 10 ^ lc * 2 ^ k:=by simp only [Nat.mul_assoc,Nat.mul_left_comm,Nat.mul_comm]
     rw [e1,e2];exact Nat.mul_lt_mul_of_pos_right hlt h2
   have lo:10 ^ (nd - 1+(k - lc))<=D * 2 ^ k:=by
     by_cases hkl:lc<=k
     · rw [Nat.pow_add]
       refine Nat.mul_le_mul hv ?_;refine Nat.le_of_mul_le_mul_right (c:=5 ^ k) ?_ h5;rw [Nat.mul_comm (2 ^ k),h10];have:10 ^ (k - lc) * 5 ^ k<=10 ^ (k - lc) * 10 ^ lc:=Nat.mul_le_mul_left _ (Nat.le_of_lt c2);rw [<-Nat.pow_add,show k - lc+lc=k by omega] at this;exact this
     · rw [show k - lc=0 by omega,Nat.add_zero]
       exact Nat.le_trans hv (Nat.le_mul_of_pos_right _ h2)
   have h1:=Cx hpos up2;have h3:=Ep hpos lo;simp only [if_true];by_cases hkl:lc<=k
   · omega
   · -- 5 ^ k has k+1 digits only at k=0
     have hk0:k=0:=by
       rcases Nat.eq_zero_or_pos k with h | h
       · exact h
       · exfalso
         have:5 ^ k<10 ^ k:=Nat.pow_lt_pow_left (by decide) (by omega);have:=Cx h5 this;omega
     subst hk0;omega
structure Dec where
 L:List UInt8
 dp:Int
 tr:Bool
structure Dec.Good (d:Dec):Prop where
 dig:∀c∈d.L,isD c=true
 len:d.L.length<=800
 head:∃c l,d.L=c :: l/\c≠48
def Ev (L:List UInt8) (dp:Int) (tr:Bool):Dec:=⟨Bg L,if Bg L=[] then 0 else dp,tr⟩
def lsO (k:Nat) (d:Dec):List UInt8:=Lib.decDigits (valD d.L * 2 ^ k)
def lsD (k:Nat) (d:Dec):Dec:=Ev ((lsO k d).take 800) (d.dp+(((lsO k d).length:Int) - d.L.length)) (d.tr || ((lsO k d).drop 800).any (· != 48))
def A6 (k:Nat):Nat->List UInt8->Nat × Nat × List UInt8
 | n,[]=>(n,0,[])
 | n,c :: l=>if n / 2 ^ k=0 then ((A6 k (n * 10+dv c) l).1,(A6 k (n * 10+dv c) l).2.1+1,(A6 k (n * 10+dv c) l).2.2) else (n,0,c :: l)
def Ca (k:Nat):Nat->Nat->Nat × Nat
 | 0,n=>(n,0)
 | f+1,n=>if n / 2 ^ k=0 then ((Ca k f (n * 10)).1,(Ca k f (n * 10)).2+1) else (n,0)
def outR (k:Nat):Nat->List UInt8->List UInt8 × Nat
 | n,[]=>([],n)
 | n,c :: l=>(dg8 (n / 2 ^ k) :: (outR k (n % 2 ^ k * 10+dv c) l).1,(outR k (n % 2 ^ k * 10+dv c) l).2)
def Cb (k:Nat):Nat->Nat->List UInt8
 | 0,_=>[]
 | f+1,n=>if n=0 then [] else dg8 (n / 2 ^ k) :: Cb k f (n % 2 ^ k * 10)
def rsP (k:Nat) (d:Dec):Nat × Nat × List UInt8:=A6 k 0 d.L
def rsF (k:Nat) (d:Dec):Nat × Nat:=Ca k 20 (rsP k d).1
def rsO (k:Nat) (d:Dec):List UInt8:=(outR k (rsF k d).1 (rsP k d).2.2).1++Cb k (k+2) (outR k (rsF k d).1 (rsP k d).2.2).2
def rsD (k:Nat) (d:Dec):Dec:=Ev ((rsO k d).take 800) (d.dp - ((rsP k d).2.1+(rsF k d).2:Nat)+1) (d.tr || ((rsO k d).drop 800).any (· != 48))
theorem strip_head {c:UInt8} {l:List UInt8} (h:c≠48):∃m,Bg (c :: l)=c :: m:=by
 obtain ⟨n,e⟩:=Fm (c :: l);cases h2:Bg (c :: l) with
 | nil=>
   exfalso;rw [h2,List.nil_append] at e;have:c∈List.replicate n 48:=by rw [<-e];exact List.mem_cons_self ..
   exact h (List.eq_of_mem_replicate this)
 | cons a m=>
   rw [h2,List.cons_append] at e;rw [(List.cons.inj e).1];exact ⟨m,rfl⟩
theorem good_trim {O:List UInt8} {c:UInt8} {l:List UInt8} (hO:O=c :: l) (hd:∀b∈O,isD b=true) (hc:c≠48) (dp:Int) (tr:Bool) :
   (Ev (O.take 800) dp tr).Good/\(Ev (O.take 800) dp tr).dp=dp/\∃m,(Ev (O.take 800) dp tr).L=c :: m:=by
 subst hO
 obtain ⟨m,hm⟩:=strip_head (l:=l.take 799) hc
 have he:(c :: l).take 800=c :: l.take 799:=rfl
 unfold Ev
 rw [he]
 refine ⟨⟨fun b hb=>?_,?_,c,m,hm,hc⟩,?_,m,hm⟩
 · have:=stripZ_mem hb
   rcases List.mem_cons.1 this with h | h
   · rw [h];exact hd c (List.mem_cons_self ..)
   · exact hd b (List.mem_cons_of_mem _ (List.mem_of_mem_take h))
 · refine Nat.le_trans (stripZ_len _) ?_
   rw [List.length_cons,List.length_take];omega
 · show (if Bg (c :: l.take 799)=[] then 0 else dp)=dp
   rw [if_neg (by rw [hm];simp)]
theorem Gk {c:UInt8} {l:List UInt8} (hd:∀b∈c :: l,isD b=true) (hc:c≠48):1<=dv c/\dv c<=9/\dv c * 10 ^ l.length<=valD (c :: l)/\valD (c :: l)<(dv c+1) * 10 ^ l.length:=by
 have h1:=hd c (List.mem_cons_self ..);have h2:=C7 (l:=l) (fun b hb=>hd b (List.mem_cons_of_mem _ hb));have h3:dv c≠0:=by
   intro e;apply hc;unfold isD at h1;simp only [Bool.and_eq_true,decide_eq_true_eq] at h1;unfold dv at e;exact UInt8.toNat_inj.1 (show c.toNat=48 by omega)
 have h4:=Ew h1;rw [C8,Nat.add_mul];omega
theorem Dec.Good.val {d:Dec} (h:d.Good):10 ^ (d.L.length - 1)<=valD d.L/\1<=d.L.length:=by
 obtain ⟨c,l,e,hc⟩:=h.head;have hd:=h.dig;rw [e] at hd ⊢;obtain ⟨a,b,p,q⟩:=Gk hd hc;rw [List.length_cons,Nat.add_sub_cancel];refine ⟨Nat.le_trans ?_ p,by omega⟩;exact Nat.le_mul_of_pos_left _ a
theorem ls_len {d:Dec} (h:d.Good) (k:Nat):(lsO k d).length+(if Az d.L (Lib.decDigits (5 ^ k)) then 1 else 0)=d.L.length+Cv k:=by
 unfold lsO;rw [Lib.decDigits_length];exact (cheat_ok h.dig h.val.1 h.val.2).1
theorem ls_good {d:Dec} (h:d.Good) (k:Nat):(lsD k d).Good/\(lsD k d).dp=d.dp+(((lsO k d).length:Int) - d.L.length)/\d.L.length<=(lsO k d).length /\
   ∃c l c' l', d.L=c :: l/\(lsD k d).L=c' :: l' /\ 1<=dv c/\dv c<=9/\1<=dv c' /\ dv c' <= 9/\((lsO k d).length=d.L.length->dv c * 2 ^ k<=dv c'):=by
 obtain ⟨c,l,e,hc⟩:=h.head
 have hv:=h.val
 have hpos:0<valD d.L * 2 ^ k:=Nat.mul_pos (Nat.lt_of_lt_of_le (Nat.pow_pos (by decide)) hv.1) (Nat.two_pow_pos k)
 obtain ⟨c', l', e', hc'⟩:=dec_head hpos
 have hd' := dec_isD (valD d.L * 2 ^ k)
 obtain ⟨g1,g2,m,g3⟩:=good_trim (O:=lsO k d) e' hd' hc' (d.dp+(((lsO k d).length:Int) - d.L.length)) (d.tr || ((lsO k d).drop 800).any (· != 48))
 have hdd:=h.dig
 rw [e] at hdd
 obtain ⟨a1,a2,a3,a4⟩:=Gk hdd hc
 rw [e'] at hd'
 obtain ⟨b1,b2,b3,b4⟩:=Gk hd' hc'
 have hlen:d.L.length<=(lsO k d).length:=by
   have h1:=hv.1;have h2:=Ep hpos (Nat.le_trans h1 (Nat.le_mul_of_pos_right _ (Nat.two_pow_pos k)));unfold lsO;rw [Lib.decDigits_length];have:=hv.2;omega
 refine ⟨g1,g2,hlen,c,l,c', m,e,g3,a1,a2,b1,b2,fun hl=>?_⟩
 have hl9:l'.length=l.length:=by
   have:=hl;unfold lsO at this;rw [e', e] at this;simpa using this
 rw [<-e', dec_val,e,hl9] at b4
 have k1:dv c * 2 ^ k * 10 ^ l.length<=valD (c :: l) * 2 ^ k:=by
   rw [Nat.mul_right_comm];exact Nat.mul_le_mul_right _ a3
 have:=Nat.lt_of_mul_lt_mul_right (Nat.lt_of_le_of_lt k1 b4)
 omega
theorem pick_spec (k:Nat):∀(l:List UInt8) (n:Nat),(∀c∈l,isD c=true)->n<10 * 2 ^ k->n * 10 ^ (A6 k n l).2.1<=(A6 k n l).1/\(A6 k n l).1<(n+1) * 10 ^ (A6 k n l).2.1/\(A6 k n l).1<10 * 2 ^ k /\
   ((A6 k n l).1 / 2 ^ k=0->(A6 k n l).2.2=[])/\l=l.take (A6 k n l).2.1++(A6 k n l).2.2/\(A6 k n l).2.1+(A6 k n l).2.2.length=l.length/\(l≠[]->n<2 ^ k->1<=(A6 k n l).2.1)
 | [],n,_,hn=>by simp [A6,hn]
 | c :: l,n,hd,hn=>by
   have h2:=Nat.two_pow_pos k;have hc:=Ew (hd c (List.mem_cons_self ..));unfold A6;by_cases h:n / 2 ^ k=0
   · have hlt:n<2 ^ k:=by
       rcases Nat.lt_or_ge n (2 ^ k) with h9 | h9
       · exact h9
       · have:=Nat.div_pos h9 h2;omega
     rw [if_pos h];obtain ⟨a,b,e,f,g,i,_⟩:=pick_spec k l (n * 10+dv c) (fun x hx=>hd x (List.mem_cons_of_mem _ hx)) (by omega);generalize A6 k (n * 10+dv c) l=p at *;obtain ⟨p1,p2,p3⟩:=p;dsimp only at *;refine ⟨?_,?_,e,f,?_,?_,fun _ _=>by omega⟩
     · rw [Nat.pow_succ,Nat.mul_comm (10 ^ p2),<-Nat.mul_assoc]
       exact Nat.le_trans (Nat.mul_le_mul_right _ (by omega)) a
     · rw [Nat.pow_succ,Nat.mul_comm (10 ^ p2),<-Nat.mul_assoc]
       exact Nat.lt_of_lt_of_le b (Nat.mul_le_mul_right _ (by omega))
     · rw [List.take_succ_cons,List.cons_append,<-g]
     · rw [List.length_cons];omega
   · rw [if_neg h]
     refine ⟨by simp,by simp,hn,fun h9=>absurd h9 h,by simp,by simp,fun _ h9=>absurd (Nat.div_eq_of_lt h9) h⟩
theorem fill_spec (k:Nat):∀(f n:Nat),0<n->n<10 * 2 ^ k->2 ^ k<=n * 10 ^ f->(Ca k f n).1=n * 10 ^ (Ca k f n).2/\2 ^ k<=(Ca k f n).1/\(Ca k f n).1<10 * 2 ^ k/\(2 ^ k<=n->(Ca k f n).2=0)
 | 0,n,h0,h1,h2=>by
   simp only [Nat.pow_zero,Nat.mul_one] at h2;simp [Ca,h1,h2]
 | f+1,n,h0,h1,h2=>by
   have hk:=Nat.two_pow_pos k;unfold Ca;by_cases h:n / 2 ^ k=0
   · have hlt:n<2 ^ k:=by
       rcases Nat.lt_or_ge n (2 ^ k) with h9 | h9
       · exact h9
       · have:=Nat.div_pos h9 hk;omega
     rw [if_pos h];obtain ⟨a,b,c,_⟩:=fill_spec k f (n * 10) (by omega) (by omega) (by rw [Nat.pow_succ,Nat.mul_comm (10 ^ f),<-Nat.mul_assoc] at h2;exact h2);generalize Ca k f (n * 10)=p at *;obtain ⟨p1,p2⟩:=p;dsimp only at *;refine ⟨?_,b,c,fun h9=>by omega⟩;rw [a,Nat.pow_succ,Nat.mul_comm (10 ^ p2),<-Nat.mul_assoc]
   · rw [if_neg h]
     have hge:2 ^ k<=n:=by
       rcases Nat.lt_or_ge n (2 ^ k) with h9 | h9
       · exact absurd (Nat.div_eq_of_lt h9) h
       · exact h9
     exact ⟨by simp,hge,h1,fun _=>rfl⟩
theorem dg8_isD {n:Nat} (h:n<10):isD (dg8 n)=true:=by unfold isD dg8;rw [Cl h];simp;omega
theorem dg8_dv {n:Nat} (h:n<10):dv (dg8 n)=n:=by unfold dv dg8;rw [Cl h];omega
theorem div_ten {n k:Nat} (h:n<10 * 2 ^ k):n / 2 ^ k<10:=(Nat.div_lt_iff_lt_mul (Nat.two_pow_pos k)).2 h
theorem next_lt {n k c:Nat} (h:c<=9):n % 2 ^ k * 10+c<10 * 2 ^ k:=by
 have:=Nat.mod_lt n (Nat.two_pow_pos k);omega
theorem out_spec (k:Nat):∀(l:List UInt8) (n:Nat),(∀c∈l,isD c=true)->n<10 * 2 ^ k->(∀c∈(outR k n l).1,isD c=true)/\(outR k n l).2<10 * 2 ^ k/\(outR k n l).1.length=l.length
 | [],n,_,hn=>by simp [outR,hn]
 | c :: l,n,hd,hn=>by
   have hc:=Ew (hd c (List.mem_cons_self ..));obtain ⟨a,b,e⟩:=out_spec k l (n % 2 ^ k * 10+dv c) (fun x hx=>hd x (List.mem_cons_of_mem _ hx)) (next_lt hc);unfold outR;refine ⟨fun x hx=>?_,b,by simp [e]⟩;rcases List.mem_cons.1 hx with h | h
   · rw [h];exact dg8_isD (div_ten hn)
   · exact a x h
theorem tail_isD (k:Nat):∀(f n:Nat),n<10 * 2 ^ k->∀c∈Cb k f n,isD c=true
 | 0,_,_=>fun c hc=>by cases hc
 | f+1,n,hn=>fun c hc=>by
   unfold Cb at hc;split at hc
   · cases hc
   · rcases List.mem_cons.1 hc with h | h
     · rw [h];exact dg8_isD (div_ten hn)
     · exact tail_isD k f _ (next_lt (c:=0) (by omega)) c h
theorem ten_fill {k:Nat} (hk:k<=60) {n:Nat} (hn:0<n):2 ^ k<=n * 10 ^ 20:=by
 have h1:2 ^ k<=2 ^ 60:=Nat.pow_le_pow_right (by decide) hk;have h2:(2:Nat) ^ 60<=10 ^ 20:=by decide
 exact Nat.le_trans h1 (Nat.le_trans h2 (Nat.le_mul_of_pos_left _ hn))
theorem rs_good {d:Dec} (h:d.Good) {k:Nat} (hk0:1<=k) (hk:k<=60):(rsD k d).Good/\(rsD k d).dp=d.dp - ((rsP k d).2.1+(rsF k d).2:Nat)+1/\Lib.nDigits (2 ^ k)<=(rsP k d).2.1+(rsF k d).2 /\
   (rsP k d).2.1+(rsF k d).2<=Lib.nDigits (2 ^ k)+1/\0<(rsP k d).1/\2 ^ k<=(rsF k d).1/\(rsF k d).1<10 * 2 ^ k /\
   ∃c l c' l', d.L=c :: l/\(rsD k d).L=c' :: l' /\ 1<=dv c/\dv c<=9/\dv c' = (rsF k d).1 / 2 ^ k/\1<=dv c' /\ dv c' <= 9/\((rsP k d).2.1+(rsF k d).2=1->(rsF k d).1=dv c):=by
 obtain ⟨c,l,e,hc⟩:=h.head
 have hd:=h.dig
 rw [e] at hd
 obtain ⟨a1,a2,_,_⟩:=Gk hd hc
 have h2:=Nat.two_pow_pos k
 have h2k:2<=2 ^ k:=by have:2 ^ 1<=2 ^ k:=Nat.pow_le_pow_right (by decide) hk0;simpa using this
 have hP:rsP k d=((A6 k (dv c) l).1,(A6 k (dv c) l).2.1+1,(A6 k (dv c) l).2.2):=by
   unfold rsP;rw [e,A6,if_pos (Nat.zero_div _),Nat.zero_mul,Nat.zero_add]
 have hF:rsF k d=Ca k 20 (A6 k (dv c) l).1:=by unfold rsF;rw [hP]
 have hO0:rsO k d=(outR k (rsF k d).1 (A6 k (dv c) l).2.2).1++Cb k (k+2) (outR k (rsF k d).1 (A6 k (dv c) l).2.2).2:=by unfold rsO;rw [hP]
 have hld:∀x∈l,isD x=true:=fun x hx=>hd x (List.mem_cons_of_mem _ hx)
 obtain ⟨p1,p2,p3,p4,p5,p6,p7⟩:=pick_spec k l (dv c) hld (by omega)
 generalize A6 k (dv c) l=p at *
 obtain ⟨n,j,rest⟩:=p
 dsimp only at *
 have hn0:0<n:=Nat.lt_of_lt_of_le (Nat.mul_pos (by omega) (Nat.pow_pos (by decide))) p1
 obtain ⟨f1,f2,f3,f4⟩:=fill_spec k 20 n hn0 p3 (ten_fill hk hn0)
 rw [<-hF] at f1 f2 f3 f4
 obtain ⟨N,hN⟩:∃N,N=(rsF k d).1:=⟨_,rfl⟩
 obtain ⟨i,hi⟩:∃i,i=(rsF k d).2:=⟨_,rfl⟩
 rw [<-hN] at f1 f2 f3 hO0
 rw [<-hi] at f1 f4
 rw [<-hN,<-hi]
 have hrd:∀x∈rest,isD x=true:=fun x hx=>hld x (by rw [p5];exact List.mem_append_right _ hx)
 obtain ⟨o1,o2,o3⟩:=out_spec k rest N hrd f3
 have hN10:=div_ten f3
 have hN1:1<=N / 2 ^ k:=Nat.div_pos f2 h2
 have hhead:∃l', rsO k d=dg8 (N / 2 ^ k) :: l' := by
   rw [hO0];cases rest with
   | nil=>
     refine ⟨Cb k (k+1) (N % 2 ^ k * 10),?_⟩;show []++Cb k (k+1+1) N=_;rw [List.nil_append,Cb,if_neg (by omega)]
   | cons b rest=>exact ⟨_,rfl⟩
 obtain ⟨l', hO⟩:=hhead
 have hOd:∀b∈rsO k d,isD b=true:=by
   rw [hO0];intro b hb;rcases List.mem_append.1 hb with h9 | h9
   · exact o1 b h9
   · exact tail_isD k _ _ o2 b h9
 have hne:dg8 (N / 2 ^ k)≠48:=by
   intro e9;have:=dg8_dv hN10;rw [e9] at this;have:dv 48=0:=by decide
   omega
 obtain ⟨g1,g2,m,g3⟩:=good_trim hO hOd hne (d.dp - ((rsP k d).2.1+i:Nat)+1) (d.tr || ((rsO k d).drop 800).any (· != 48))
 have hD:rsD k d=Ev ((rsO k d).take 800) (d.dp - ((rsP k d).2.1+i:Nat)+1) (d.tr || ((rsO k d).drop 800).any (· != 48)):=by
   unfold rsD;rw [<-hi]
 rw [hP] at g2 hD g1 g3
 dsimp only at g2 hD g1 g3
 rw [hD,hP]
 dsimp only
 have hup:N<10 ^ (j+1+i):=by
   rw [f1,Nat.pow_add,Nat.pow_succ];refine Nat.mul_lt_mul_of_pos_right ?_ (Nat.pow_pos (by decide));refine Nat.lt_of_lt_of_le p2 ?_;rw [Nat.mul_comm];exact Nat.mul_le_mul_left _ (by omega)
 have hlo:10 ^ (j+i)<=N:=by
   rw [f1,Nat.pow_add];refine Nat.mul_le_mul_right _ (Nat.le_trans ?_ p1);exact Nat.le_mul_of_pos_left _ a1
 obtain ⟨d1,d2,d3⟩:=Dp h2
 have r1:Lib.nDigits (2 ^ k)<=j+1+i:=by
   have:=(Nat.pow_lt_pow_iff_right (a:=10) (by decide)).1 (Nat.lt_of_le_of_lt d2 (Nat.lt_of_le_of_lt f2 hup));omega
 have r2:j+i<=Lib.nDigits (2 ^ k):=by
   have:10 ^ (j+i)<10 ^ (Lib.nDigits (2 ^ k)+1):=by
     rw [Nat.pow_succ];omega
   have:=(Nat.pow_lt_pow_iff_right (a:=10) (by decide)).1 this;omega
 refine ⟨g1,g2,r1,by omega,hn0,f2,f3,c,l,dg8 (N / 2 ^ k),m,e,g3,a1,a2,dg8_dv hN10,by rw [dg8_dv hN10];exact hN1,by rw [dg8_dv hN10];omega,fun h9=>?_⟩
 have hj0:j=0:=by omega
 have hi0:i=0:=by omega
 rw [f1,hi0,Nat.pow_zero,Nat.mul_one]
 rw [hj0,Nat.pow_zero,Nat.mul_one] at p1 p2
 omega
def ptL:List Nat:=[1,3,6,9,13,16,19,23,26]
def pt (n:Nat):Nat:=ptL.getD n 27
theorem pt_tab:∀n:Fin 9,1<=pt n.val/\pt n.val<=26/\Cv (pt n.val)=max 1 n.val/\(1<=n.val->Lib.nDigits (2 ^ pt n.val)=n.val):=by decide +kernel
theorem pt_big {n:Nat} (h:9<=n):pt n=27:=by
 unfold pt;rw [List.getD_eq_getElem?_getD,List.getElem?_eq_none (by show 9<=n;exact h)];rfl
theorem pt27:Cv 27=9/\Lib.nDigits (2 ^ 27)=9:=by decide +kernel
theorem Fj (n:Nat):1<=pt n/\pt n<=27/\Cv (pt n)=max 1 (min n 9)/\(1<=n->Lib.nDigits (2 ^ pt n)=min n 9):=by
 rcases Nat.lt_or_ge n 9 with h | h
 · obtain ⟨a,b,c,d⟩:=pt_tab ⟨n,h⟩
   dsimp only at a b c d;refine ⟨a,by omega,by rw [c];omega,fun h1=>by rw [d h1];omega⟩
 · rw [pt_big h]
   exact ⟨by decide,by decide,by rw [pt27.1];omega,fun _=>by rw [pt27.2];omega⟩
def De (d:Dec):Nat:=dv (d.L.headD 48)
def mR (d:Dec):Nat:=if 0<d.dp then 2 * d.dp.toNat+(if 8<=De d then 1 else 0) else 0
def mL (d:Dec):Nat:=if d.dp<=0 then 10 * (-d.dp).toNat+(10 - De d) else 0
def lowQ (d:Dec):Prop:=d.dp<0\/(d.dp=0/\De d<5)
instance (d:Dec):Decidable (lowQ d):=by unfold lowQ;infer_instance
theorem mR_step {d:Dec} (h:d.Good) (h0:0<d.dp):(rsD (pt d.dp.toNat) d).Good/\mR (rsD (pt d.dp.toNat) d)<mR d/\0<=(rsD (pt d.dp.toNat) d).dp:=by
 obtain ⟨n,hn⟩:∃n,d.dp.toNat=n:=⟨_,rfl⟩;have hdp:d.dp=n:=by omega
 rw [hn];obtain ⟨p1,p2,_,p4⟩:=Fj n;obtain ⟨g,g1,g2,g3,_,g5,g6,c,l,c', l', e,e', a1,a2,a3,a4,a5,a6⟩:=rs_good h p1 (by omega);rw [p4 (by omega)] at g2 g3;have hh:De d=dv c:=by unfold De;rw [e];rfl
 have hh' : De (rsD (pt n) d)=dv c' := by unfold De;rw [e'];rfl
 refine ⟨g,?_,by rw [g1];omega⟩;unfold mR;rw [hh,hh', if_pos h0,g1];by_cases h2:2<=n
 · split<;>(try split)<;>(try split)<;>omega
 · have h1:n=1:=by omega
   subst h1;have h8:(2:Nat) ^ pt 1=8:=by decide
   rw [h8] at g5 a3;by_cases hr:(rsP (pt 1) d).2.1+(rsF (pt 1) d).2=1
   · have:=a6 hr
     rw [hr,if_pos (by omega),if_neg (by omega),if_pos (by omega)];omega
   · rw [if_neg (by omega)]
     omega
theorem mL_step {d:Dec} (h:d.Good) (h0:lowQ d):(lsD (pt (-d.dp).toNat) d).Good/\mL (lsD (pt (-d.dp).toNat) d)<mL d/\(lsD (pt (-d.dp).toNat) d).dp<=0/\d.dp<=(lsD (pt (-d.dp).toNat) d).dp:=by
 obtain ⟨n,hn⟩:∃n,(-d.dp).toNat=n:=⟨_,rfl⟩;have hle:d.dp<=0:=by rcases h0 with h0 | h0<;>omega
 have hdp:d.dp=-(n:Int):=by omega
 rw [hn];obtain ⟨p1,p2,p3,_⟩:=Fj n;obtain ⟨g,g1,g2,c,l,c', l', e,e', a1,a2,a3,a4,a5⟩:=ls_good h (pt n);have hl:=ls_len h (pt n);rw [p3] at hl;have hh:De d=dv c:=by unfold De;rw [e];rfl
 have hh' : De (lsD (pt n) d)=dv c' := by unfold De;rw [e'];rfl
 have hn0:n=0->(lsO (pt n) d).length=d.L.length:=by
   intro hz;subst hz;have hlow:De d<5:=by rcases h0 with h0 | h0<;>omega
   rw [hh] at hlow;have hcd:=h.dig c (by rw [e];exact List.mem_cons_self ..);have hlt:Az d.L (Lib.decDigits (5 ^ pt 0))=true:=by
     rw [show Lib.decDigits (5 ^ pt 0)=[53] by decide +kernel,e];unfold isD at hcd;simp only [Bool.and_eq_true,decide_eq_true_eq] at hcd;unfold dv at hlow;unfold Az;have hne:c≠53:=fun e9=>by rw [e9] at hlow;exact absurd hlow (by decide)
     rw [if_neg hne];exact decide_eq_true (show c.toNat<53 by omega)
   rw [hlt] at hl;simp only [if_true] at hl;omega
 have hif:(if Az d.L (Lib.decDigits (5 ^ pt n)) then 1 else 0)<=1:=by split<;>omega
 have h2p:2<=2 ^ pt n:=by have:2 ^ 1<=2 ^ pt n:=Nat.pow_le_pow_right (by decide) p1;simpa using this
 generalize (lsO (pt n) d).length=T at *;generalize (if Az d.L (Lib.decDigits (5 ^ pt n)) then 1 else 0)=b at *;refine ⟨g,?_,by rw [g1];omega,by rw [g1];omega⟩;unfold mL;rw [hh,hh', if_pos hle,g1,if_pos (by omega),hn];by_cases ht:T=d.L.length
 · have h9:=a5 ht
   have h10:dv c * 2<=dv c * 2 ^ pt n:=Nat.mul_le_mul_left _ h2p;omega
 · omega
def Ay:Nat->Dec->Int->Dec × Int
 | 0,d,e=>(d,e)
 | f+1,d,e=>if 0<d.dp then Ay f (rsD (pt d.dp.toNat) d) (e+pt d.dp.toNat) else (d,e)
def Br:Nat->Dec->Int->Dec × Int
 | 0,d,e=>(d,e)
 | f+1,d,e=>if lowQ d then Br f (lsD (pt (-d.dp).toNat) d) (e - pt (-d.dp).toNat) else (d,e)
theorem scaleR_out {f:Nat} {d:Dec} {e:Int} (h:¬0<d.dp):Ay f d e=(d,e):=by
 cases f with
 | zero=>rfl
 | succ f=>rw [Ay,if_neg h]
theorem scaleL_out {f:Nat} {d:Dec} {e:Int} (h:¬lowQ d):Br f d e=(d,e):=by
 cases f with
 | zero=>rfl
 | succ f=>rw [Br,if_neg h]
theorem scaleR_good:∀(f:Nat) (d:Dec) (e:Int),d.Good->mR d<=f->(Ay f d e).1.Good/\(Ay f d e).1.dp<=0/\min d.dp 0<=(Ay f d e).1.dp/\e<=(Ay f d e).2/\(Ay f d e).2<=e+27 * f
 | 0,d,e,h,hm=>by
   have:¬0<d.dp:=fun h0=>by unfold mR at hm;rw [if_pos h0] at hm;omega
   simp only [Ay];exact ⟨h,by omega,by omega,by omega,by omega⟩
 | f+1,d,e,h,hm=>by
   unfold Ay;by_cases h0:0<d.dp
   · rw [if_pos h0]
     obtain ⟨a,b,c⟩:=mR_step h h0;obtain ⟨p1,p2,_⟩:=Fj d.dp.toNat;obtain ⟨x,y,z,u,v⟩:=scaleR_good f _ (e+pt d.dp.toNat) a (by omega);exact ⟨x,y,by omega,by omega,by omega⟩
   · rw [if_neg h0]
     exact ⟨h,by dsimp only;omega,by dsimp only;omega,by dsimp only;omega,by dsimp only;omega⟩
theorem scaleL_good:∀(f:Nat) (d:Dec) (e:Int),d.Good->d.dp<=0->mL d<=f->(Br f d e).1.Good/\(Br f d e).1.dp<=0/\d.dp<=(Br f d e).1.dp/\(Br f d e).2<=e/\e - 27 * f<=(Br f d e).2
 | 0,d,e,h,hp,hm=>by
   simp only [Br];exact ⟨h,hp,by omega,by omega,by omega⟩
 | f+1,d,e,h,hp,hm=>by
   unfold Br;by_cases h0:lowQ d
   · rw [if_pos h0]
     obtain ⟨a,b,c,c2⟩:=mL_step h h0;obtain ⟨p1,p2,_⟩:=Fj (-d.dp).toNat;obtain ⟨x,y,z,u,v⟩:=scaleL_good f _ (e - pt (-d.dp).toNat) a c (by omega);exact ⟨x,y,by omega,by omega,by omega⟩
   · rw [if_neg h0]
     exact ⟨h,hp,by dsimp only;omega,by dsimp only;omega,by dsimp only;omega⟩
def shR:Nat->Nat->Dec->Dec
 | 0,n,d=>rsD n d
 | f+1,n,d=>if 60<n then shR f (n - 60) (rsD 60 d) else rsD n d
theorem rs_dp {d:Dec} (h:d.Good) {k:Nat} (hk0:1<=k) (hk:k<=60):(rsD k d).Good/\(rsD k d).dp<=d.dp/\d.dp - 20<=(rsD k d).dp:=by
 obtain ⟨g,g1,g2,g3,_⟩:=rs_good h hk0 hk;have h1:=(Dp (Nat.two_pow_pos k)).1;have h2:Lib.nDigits (2 ^ k)<=19:=by
   refine Cx (Nat.two_pow_pos k) ?_;have:2 ^ k<=2 ^ 60:=Nat.pow_le_pow_right (by decide) hk;have:(2:Nat) ^ 60<10 ^ 19:=by decide
   omega
 exact ⟨g,by omega,by omega⟩
theorem shR_good:∀(f n:Nat) (d:Dec),d.Good->1<=n->n<=60 * (f+1)->(shR f n d).Good/\(shR f n d).dp<=d.dp/\d.dp - 20 * (f+1)<=(shR f n d).dp
 | 0,n,d,h,h1,h2=>by
   obtain ⟨a,b,c⟩:=rs_dp h h1 (by omega);exact ⟨a,b,by unfold shR;omega⟩
 | f+1,n,d,h,h1,h2=>by
   unfold shR;by_cases h0:60<n
   · rw [if_pos h0]
     obtain ⟨a,b,c⟩:=rs_dp h (k:=60) (by decide) (by decide);obtain ⟨x,y,z⟩:=shR_good f (n - 60) _ a (by omega) (by omega);exact ⟨x,by omega,by omega⟩
   · rw [if_neg h0]
     obtain ⟨a,b,c⟩:=rs_dp h h1 (by omega);exact ⟨a,b,by omega⟩
def upQ (d:Dec) (nd:Int):Bool:=
 if nd<0\/(d.L.length:Int)<=nd then false
 else if d.L.getD nd.toNat 0=53/\nd+1=d.L.length then
   (if d.tr then true else decide (0<nd) && decide (dv (d.L.getD (nd - 1).toNat 0) % 2=1))
 else decide (53<=(d.L.getD nd.toNat 0).toNat)
def rndI (d:Dec):Nat:=valD (d.L.take d.dp.toNat) * 10 ^ (d.dp.toNat - d.L.length)+(upQ d d.dp).toNat
def fbM (d:Dec):Option (Nat × Int):=
 if d.L=[] then some (0,-1023)
 else if 310<d.dp then none
 else if d.dp < -330 then some (0,-1023)
 else
   let a:=Ay (mR d) d 0
   let b:=Br (mL a.1) a.1 a.2
   let e:=b.2 - 1
   let c:=if e < -1022 then shR 2000 (-1022 - e).toNat b.1 else b.1
   let e2:=if e < -1022 then -1022 else e
   if 1024<=e2 then none
   else
     let m:=rndI (lsD 53 c)
     if m=9007199254740992 then (if 1024<=e2+1 then none else some (4503599627370496,e2+1))
     else some (m,if m / 4503599627370496 % 2=0 then -1023 else e2)
def fbR (d:Dec):Nat:=match fbM d with
 | none=>9218868437227405312
 | some (m,e)=>m % 4503599627370496+(e+1023).toNat * 4503599627370496
theorem cheat53:Cv 53=16:=by decide +kernel
theorem fb_bounds {d:Dec} (h:d.Good) (h1:d.dp<=310) (h2:-330<=d.dp):mR d<=621/\(Ay (mR d) d 0).1.Good/\(Ay (mR d) d 0).1.dp<=0/\-330<=(Ay (mR d) d 0).1.dp/\0<=(Ay (mR d) d 0).2/\(Ay (mR d) d 0).2<=16767 /\
   mL (Ay (mR d) d 0).1<=3310/\(Br (mL (Ay (mR d) d 0).1) (Ay (mR d) d 0).1 (Ay (mR d) d 0).2).1.Good/\(Br (mL (Ay (mR d) d 0).1) (Ay (mR d) d 0).1 (Ay (mR d) d 0).2).1.dp<=0 /\
   -330<=(Br (mL (Ay (mR d) d 0).1) (Ay (mR d) d 0).1 (Ay (mR d) d 0).2).1.dp/\-89370<=(Br (mL (Ay (mR d) d 0).1) (Ay (mR d) d 0).1 (Ay (mR d) d 0).2).2/\(Br (mL (Ay (mR d) d 0).1) (Ay (mR d) d 0).1 (Ay (mR d) d 0).2).2<=16767:=by
 have m1:mR d<=621:=by unfold mR;split<;>(try split)<;>omega
 obtain ⟨a,b,c,e,f⟩:=scaleR_good (mR d) d 0 h (Nat.le_refl _)
 generalize Ay (mR d) d 0=s at *
 obtain ⟨s1,s2⟩:=s
 dsimp only at *
 have m2:mL s1<=3310:=by unfold mL;split<;>omega
 obtain ⟨a', b', c', e', f'⟩:=scaleL_good (mL s1) s1 s2 a b (Nat.le_refl _)
 exact ⟨m1,a,b,by omega,e,by omega,m2,a', b', by omega,by omega,by omega⟩
theorem rnd_lt {d:Dec} (h:d.Good) (hp:d.dp<=16):rndI d<=10 ^ 16:=by
 unfold rndI;have h1:(upQ d d.dp).toNat<=1:=by cases upQ d d.dp<;>decide
 obtain ⟨p,hp'⟩:∃p,d.dp.toNat=p:=⟨_,rfl⟩;rw [hp'];have hv:=C7 (l:=d.L.take p) (fun c hc=>h.dig c (List.mem_of_mem_take hc));rw [List.length_take] at hv;have h2:valD (d.L.take p) * 10 ^ (p - d.L.length)<10 ^ min p d.L.length * 10 ^ (p - d.L.length):=Nat.mul_lt_mul_of_pos_right hv (Nat.pow_pos (by decide));rw [<-Nat.pow_add,show min p d.L.length+(p - d.L.length)=p by omega] at h2;have h3:(10:Nat) ^ p<=10 ^ 16:=Nat.pow_le_pow_right (by decide) (by omega);omega
theorem fb_lt (d:Dec) (h:d.L=[]\/d.Good):fbR d<=9218868437227405312/\(fbM d=none ↔ fbR d=9218868437227405312):=by
 have key:∀m e,fbM d=some (m,e)->e<1024:=by
   intro m e;unfold fbM;by_cases h0:d.L=[]
   · rw [if_pos h0];intro h9;cases h9;decide
   rw [if_neg h0];by_cases h1:310<d.dp
   · rw [if_pos h1];intro h9;cases h9
   rw [if_neg h1];by_cases h2:d.dp < -330
   · rw [if_pos h2];intro h9;cases h9;decide
   rw [if_neg h2];dsimp only;generalize Br _ _ _=b;obtain ⟨b1,b2⟩:=b;dsimp only;generalize (if b2 - 1 < -1022 then shR 2000 (-1022 - (b2 - 1)).toNat b1 else b1)=c;generalize he2:(if b2 - 1 < -1022 then -1022 else b2 - 1)=e2;by_cases h3:1024<=e2
   · rw [if_pos h3];intro h9;cases h9
   rw [if_neg h3];generalize rndI (lsD 53 c)=k;by_cases h4:k=9007199254740992
   · rw [if_pos h4]
     by_cases h5:1024<=e2+1
     · rw [if_pos h5];intro h9;cases h9
     · rw [if_neg h5];intro h9;cases h9;omega
   · rw [if_neg h4];intro h9;cases h9;split<;>omega
 unfold fbR;cases hm:fbM d with
 | none=>simp
 | some p=>
   obtain ⟨m,e⟩:=p;have:=key m e hm;dsimp only;refine ⟨by omega,⟨(fun h9=>by cases h9),(fun h9=>by omega)⟩⟩
end Go.Proofs.YtagkgfniihiinaaGreatDoor
