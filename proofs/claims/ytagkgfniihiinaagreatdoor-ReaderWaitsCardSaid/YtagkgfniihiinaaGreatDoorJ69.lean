/- real.Text, at every number. -/
import Derived.Test.YtagkgfniihiinaaGreatDoorReal
import Derived.Test.YtagkgfniihiinaaGreatDoorRIs
import Derived.Lib.SmallJoins
import Derived.Test.YtagkgfniihiinaaGreatDoorJ81
namespace Go.Proofs.YtagkgfniihiinaaGreatDoor
open Go.RowKit
theorem atoi_exp:∀k:Fin 1999,Lib.atoi (expL ((k.val:Int) - 999))=some ((k.val:Int) - 999):=by decide +kernel
theorem atoi_expL {x:Int} (h0:-999<=x) (h1:x<=999):Lib.atoi (expL x)=some x:=by
 have:=atoi_exp ⟨(x+999).toNat,by omega⟩;simp only at this;rw [show (((x+999).toNat:Nat):Int) - 999=x by omega] at this;exact this
theorem index_past {A E:List UInt8} {c:UInt8} (h:∀b∈A,b≠c):Lib.indexByte (A++c :: E) c=A.length:=by
 induction A with
 | nil=>simp [Lib.indexByte]
 | cons a A ih=>
   have h1:=ih (fun b hb=>h b (List.mem_cons_of_mem _ hb));have h2:(a == c)=false:=by simpa using h a (List.mem_cons_self ..)
   rw [List.cons_append,Lib.indexByte,h2,h1];have h3:((A.length:Int) == -1)=false:=by simp
   rw [h3];simp
def Ec (neg:Bool) (D:List UInt8):List UInt8:=A0 neg++[D.headD 48]++(if 1<D.length then 46 :: D.tail else [])
theorem effE_front (neg:Bool) (D:List UInt8) (dp:Int):effE neg D dp=Ec neg D++101 :: expL (if D=[] then 0 else dp - 1):=by
 unfold effE Ec;simp
theorem front_len (neg:Bool) (D:List UInt8):(Ec neg D).length<=3+D.length:=by
 unfold Ec;rw [List.length_append,List.length_append];have h1:(A0 neg).length<=1:=by unfold A0;split<;>simp
 have h2:(if 1<D.length then 46 :: D.tail else []:List UInt8).length<=1+D.length:=by split<;>simp<;>omega
 simp only [List.length_singleton];omega
theorem front_ne {neg:Bool} {D:List UInt8} (hd:∀c∈D,isD c=true):∀b∈Ec neg D,b≠101:=by
 have key:∀c:UInt8,isD c=true->c≠101:=fun c h e=>by rw [e] at h;revert h;decide
 intro b hb;unfold Ec at hb;rw [List.mem_append,List.mem_append] at hb;rcases hb with (hb | hb) | hb
 · unfold A0 at hb
   split at hb
   · rw [List.mem_singleton] at hb;rw [hb];decide
   · simp at hb
 · rw [List.mem_singleton] at hb
   rw [hb];cases D with
   | nil=>decide
   | cons a l=>exact key a (hd a (List.mem_cons_self ..))
 · split at hb
   · rw [List.mem_cons] at hb
     rcases hb with hb | hb
     · rw [hb];decide
     · exact key b (hd b (List.mem_of_mem_tail hb))
   · simp at hb
theorem digL_isD (r:Nat):∀c∈digL r,isD c=true:=by
 intro c hc;unfold digL at hc;split at hc
 · simp at hc
 · exact Cl _ c (stripZ_mem hc)
theorem Eh {r:Nat} (hr:r<9218868437227405312):-400<=A9 r/\A9 r<=400:=by
 unfold A9;split
 · omega
 · obtain ⟨a,b,c,d⟩:=Ds (r:=r) (by omega) hr
   have:=Lib.nDigits_le20 (Aj r).1 (by omega);have:=Lib.nDigits_pos (Aj r).1;omega
theorem digL_len (r:Nat) (hr:r<9218868437227405312):(digL r).length<=20:=by
 unfold digL;split
 · simp
 · obtain ⟨a,b,c,d⟩:=Ds (r:=r) (by omega) hr
   have:=stripZ_len (Lib.decDigits (Aj r).1);rw [Lib.decDigits_length] at this;have:=Lib.nDigits_le20 (Aj r).1 (by omega);omega
def expN (r:Nat):Int:=if digL r=[] then 0 else A9 r - 1
theorem Dw {n:Nat} (h:nanF n=true):A5 n=[110,97,110]:=if_pos h
theorem realL_inf {n:Nat} (h:nanF n=false) (h2:n % 9223372036854775808=9218868437227405312):A5 n=A0 (decide (9223372036854775808<=n))++[105,110,102]:=by
 unfold A5;rw [if_neg (by simp [h]),if_pos h2]
theorem realL_num {n:Nat} (h:nanF n=false) (h2:n % 9223372036854775808≠9218868437227405312):A5 n =
   if expN (n % 9223372036854775808) < -4\/21<=expN (n % 9223372036854775808) then effE (decide (9223372036854775808<=n)) (digL (n % 9223372036854775808)) (A9 (n % 9223372036854775808))
   else effF (decide (9223372036854775808<=n)) (digL (n % 9223372036854775808)) (A9 (n % 9223372036854775808)):=by
 unfold A5;rw [if_neg (by simp [h]),if_neg h2];rfl
set_option maxRecDepth 100000 in
set_option maxHeartbeats 1600000 in
theorem realText_any {w:World} {n:Nat} (hn:n<18446744073709551616) (hF:Flo w) :
   Calls Tryz.prog 48 #[.float .f64 n] w fun e w' => ∃t:ByteArray,e=.returned (.string t)/\t.data.toList=A5 n/\Below w.heap.size w w' := by
 have h1:=isNaN_any hn
 cases hnan:nanF n with
 | true=>
   have hL:=Dw hnan;rw [hnan] at h1;clear hnan;replace hF:=Hd hF;replace h1:=Hd h1;replace hL:=Hd hL
   go_enter Tryz.func48,Tryz.ntmps48
   go_wp2_with fail
   refine (h1.out _).mono ?_;rintro e w' ⟨rfl,hww⟩;obtain rfl:=hww.symm;clear hww;go_wp2;go_ret;exact ⟨_,rfl,hL.out.symm,Below.refl _ _⟩
 | false=>
   have h2:=isInf_pos hn hnan;have h3:=isInf_neg hn hnan;rw [hnan] at h1;by_cases hinf:n % 9223372036854775808=9218868437227405312
   · have hL:=realL_inf hnan hinf
     replace hF:=Hd hF;replace h1:=Hd h1;by_cases hp:n=9218868437227405312
     · rw [decide_eq_true hp] at h2
       have hL2:A5 n=[105,110,102]:=by rw [hL,decide_eq_false (by omega)];rfl
       replace hL2:=Hd hL2;replace h2:=Hd h2;clear h3 hp hL hinf hnan
       go_enter Tryz.func48,Tryz.ntmps48
       go_wp2_with fail
       refine (h1.out _).mono ?_;rintro e w' ⟨rfl,hww⟩;obtain rfl:=hww.symm;clear hww;go_wp2_with fail
       refine (h2.out _).mono ?_;rintro e w' ⟨rfl,hww⟩;obtain rfl:=hww.symm;clear hww;go_wp2;go_ret;exact ⟨_,rfl,hL2.out.symm,Below.refl _ _⟩
     · rw [decide_eq_false hp] at h2
       have hp2:n=18442240474082181120:=by omega
       rw [decide_eq_true hp2] at h3;have hL2:A5 n=[45,105,110,102]:=by rw [hL,decide_eq_true (by omega)];rfl
       replace hL2:=Hd hL2;replace h2:=Hd h2;replace h3:=Hd h3;clear hp hp2 hL hinf hnan
       go_enter Tryz.func48,Tryz.ntmps48
       go_wp2_with fail
       refine (h1.out _).mono ?_;rintro e w' ⟨rfl,hww⟩;obtain rfl:=hww.symm;clear hww;go_wp2_with fail
       refine (h2.out _).mono ?_;rintro e w' ⟨rfl,hww⟩;obtain rfl:=hww.symm;clear hww;go_wp2_with fail
       refine (h3.out _).mono ?_;rintro e w' ⟨rfl,hww⟩;obtain rfl:=hww.symm;clear hww;go_wp2;go_ret;exact ⟨_,rfl,hL2.out.symm,Below.refl _ _⟩
   · have hr:n % 9223372036854775808<9218868437227405312:=by
       unfold nanF at hnan;have:=of_decide_eq_false hnan;omega
     have hL:=realL_num hnan hinf;rw [decide_eq_false (by omega)] at h2 h3;obtain ⟨r,hre⟩:∃r,r=n % 9223372036854775808:=⟨_,rfl⟩;obtain ⟨nb,hnb⟩:∃nb:Bool,nb=decide (9223372036854775808<=n):=⟨_,rfl⟩;have hE:=sfmtE_any hn hr hF;have hFF:∀wz,Flo wz->_:=fun wz hz=>sfmtF_any (w:=wz) hn hr hz;rw [<-hre,<-hnb] at hL hE;rw [<-hre] at hr;have hpb:=Eh hr;obtain ⟨x,hx⟩:∃x,x=expN r:=⟨_,rfl⟩;have hx9:-401<=x/\x<=400:=by rw [hx];unfold expN;split<;>omega
     rw [<-hx] at hL;have hlen:=digL_len r hr;clear hinf hnan hpb;replace hF:=Hd hF;replace h1:=Hd h1;replace h2:=Hd h2;replace h3:=Hd h3;replace hE:=Hd hE;replace hFF:=Hd hFF;replace hL:=Hd hL;replace hre:=Hd hre;replace hnb:=Hd hnb;replace hx:=Hd hx
     go_enter Tryz.func48,Tryz.ntmps48
     go_wp2_with fail
     refine (h1.out _).mono ?_;rintro e w' ⟨rfl,hww⟩;obtain rfl:=hww.symm;clear hww;go_wp2_with fail
     refine (h2.out _).mono ?_;rintro e w' ⟨rfl,hww⟩;obtain rfl:=hww.symm;clear hww;go_wp2_with fail
     refine (h3.out _).mono ?_;rintro e w' ⟨rfl,hww⟩;obtain rfl:=hww.symm;clear hww;go_wp2_with fail
     refine hE.out.mono ?_;rintro e w1 ⟨t,rfl,ht,hb1⟩;have ht2:t.data.toList=Ec nb (digL r)++101 :: expL x:=by rw [ht,effE_front,hx.out];rfl
     obtain ⟨k,hk⟩:∃k:Nat,k=(Ec nb (digL r)).length:=⟨_,rfl⟩;have hk64:(k:Int)<=100:=by have:=front_len nb (digL r);omega
     have hix:=Tryz.strings_IndexByte t 101 w1;have hix2:Lib.indexByte t.data.toList (101:Int).toNat.toUInt8=(k:Int):=by
       rw [ht2,hk];exact index_past (front_ne (digL_isD r))
     rw [hix2] at hix;have htn:t.size=k+1+(expL x).length:=by
       have:t.size=t.data.toList.length:=by rw [Array.length_toList];rfl
       rw [this,ht2,hk];simp;omega
     have hel:=expL_len x;obtain ⟨t2,ht2e⟩:∃t2,t2=t.extract (k+1) t.size:=⟨_,rfl⟩;have ht2l:t2.data.toList=expL x:=by
       rw [ht2e,Gp,ht2,hk];rw [show Ec nb (digL r)++101 :: expL x=(Ec nb (digL r)++[101])++expL x by simp];rw [show (Ec nb (digL r)).length+1=(Ec nb (digL r)++[101]).length by simp,List.drop_left];refine List.take_of_length_le ?_;rw [htn,hk];simp
     have hat:=Tryz.strconv_Atoi t2 x (by
       have:t2.size=t2.data.toList.length:=by rw [Array.length_toList];rfl
       rw [this,ht2l];omega) (by rw [ht2l];exact atoi_expL (by omega) (by omega))
     replace ht:=Hd ht;replace ht2:=Hd ht2;replace hk:=Hd hk;replace hix:=Hd hix;replace hat:=Hd hat;replace ht2l:=Hd ht2l;clear hix2;have hkt:(k:Int)+1<=(t.size:Int):=by omega
     have hkt0:(0:Int)<=(k:Int)+1:=by omega
     replace ht2e:=ht2e.symm;have hF1:Flo w1:=⟨hF.out.pows.below hb1 hF.out.pows.lt,Go.Joins.tab_stays Bd hF.out.tens hb1 (Nat.le_refl _)⟩;replace hF1:=Hd hF1;replace hb1:=Hd hb1;clear htn hel;go_wp2_with fail
     refine hix.out.mono ?_;rintro e w' ⟨rfl,hww⟩;obtain rfl:=hww.symm;clear hww;go_wp2_with fail
     refine (hat.out _).mono ?_;rintro e w2 ⟨rfl,tb,hw2⟩;have hb12:Below w1.heap.size w1 w2:=by rw [hw2];exact Go.Joins.below_bytesWorld _ _ _ _ (Nat.le_refl _)
     have hb02:Below w.heap.size w w2:=hb1.out.trans (hb12.mono hb1.out.size);have hF2:Flo w2:=⟨hF1.out.pows.below hb12 hF1.out.pows.lt,Go.Joins.tab_stays Bd hF1.out.tens hb12 (Nat.le_refl _)⟩;replace hb02:=Hd hb02;replace hF2:=Hd hF2;clear hw2 hb12 hat hix;by_cases hx4:x < -4
     · have hLe:=hL.out
       rw [if_pos (.inl hx4),<-ht.out] at hLe;replace hLe:=Hd hLe;go_wp2_with fail
       go_ret;exact ⟨t,rfl,hLe.out.symm,hb02.out⟩
     · by_cases hx21:21<=x
       · have hLe:=hL.out
         rw [if_pos (.inr hx21),<-ht.out] at hLe;replace hLe:=Hd hLe;go_wp2_with fail
         go_ret;exact ⟨t,rfl,hLe.out.symm,hb02.out⟩
       · have hLe:=hL.out
         rw [if_neg (by omega)] at hLe;replace hLe:=Hd hLe;have hf:=hFF.out w2 hF2.out;rw [<-hre.out,<-hnb.out] at hf;replace hf:=Hd hf;go_wp2_with fail
         refine hf.out.mono ?_;rintro e w3 ⟨t3,rfl,ht3,hb3⟩;have hb03:=hb02.out.trans (hb3.mono hb02.out.size);replace ht3:=Hd ht3;go_wp2_with fail
         go_ret;exact ⟨t3,rfl,ht3.out.trans hLe.out.symm,hb03⟩
end Go.Proofs.YtagkgfniihiinaaGreatDoor
namespace Go.Proofs.YtagkgfniihiinaaGreatDoor
def Bf (r:Nat):List UInt8:=if r=9218868437227405312 then [105,110,102] else if expN r < -4\/21<=expN r then effE false (digL r) (A9 r) else effF false (digL r) (A9 r)
theorem effE_sign (neg:Bool) (D:List UInt8) (dp:Int):effE neg D dp=A0 neg++effE false D dp:=by unfold effE;simp [A0]
theorem effF_sign (neg:Bool) (D:List UInt8) (dp:Int):effF neg D dp=A0 neg++effF false D dp:=by unfold effF;simp [A0]
theorem Cs {n:Nat} (hn:nanF n=false):A5 n=A0 (decide (9223372036854775808<=n))++Bf (n % 9223372036854775808):=by
 by_cases h:n % 9223372036854775808=9218868437227405312
 · rw [realL_inf hn h];unfold Bf;rw [if_pos h]
 · rw [realL_num hn h];unfold Bf;rw [if_neg h]
   split
   · exact effE_sign _ _ _
   · exact effF_sign _ _ _
theorem effE_len (neg:Bool) (D:List UInt8) (dp:Int):(effE neg D dp).length<=10+D.length:=by
 rw [effE_front,List.length_append,List.length_cons];have h1:=front_len neg D;have h2:=expL_len (if D=[] then 0 else dp - 1);omega
theorem effF_len (neg:Bool) (D:List UInt8) (dp:Int) (h0:-400<=dp) (h1:dp<=400):(effF neg D dp).length<=1000+2 * D.length:=by
 unfold effF;rw [List.length_append,List.length_append];have e0:(A0 neg).length<=1:=by unfold A0;split<;>simp
 have e1:(if 0<dp then D.take dp.toNat++List.replicate (dp.toNat - D.length) 48 else [48]:List UInt8).length<=401+D.length:=by
   split
   · rw [List.length_append,List.length_replicate,List.length_take];omega
   · simp;omega
 have e2:(if dp<D.length then 46 :: (List.replicate (-dp).toNat 48++D.drop dp.toNat) else []:List UInt8).length<=401+D.length:=by
   split
   · rw [List.length_cons,List.length_append,List.length_replicate,List.length_drop];omega
   · simp
 omega
theorem bareL_len {r:Nat} (h:r<=9218868437227405312):(Bf r).length<=1100:=by
 unfold Bf;split
 · simp
 · have h1:=digL_len r (by omega)
   have h2:=Eh (r:=r) (by omega);split
   · have:=effE_len false (digL r) (A9 r);omega
   · have:=effF_len false (digL r) (A9 r) h2.1 h2.2;omega
theorem nDig_le:∀k u:Nat,u<10 ^ (k+1)->Lib.nDigits u<=k+1
 | 0,u,h=>by rw [Lib.nDigits_small (by simpa using h)];exact Nat.le_refl _
 | k+1,u,h=>by
   by_cases h1:u<10
   · rw [Lib.nDigits_small h1];omega
   · rw [Lib.nDigits_big h1]
     have:=nDig_le k (u / 10) (by rw [Nat.pow_succ] at h;omega);omega
theorem Aw (s:ByteArray):s.size=s.data.toList.length:=by rw [Array.length_toList];rfl
theorem exp_head {X:List UInt8} {x:Int} (h:ExpAt X x):∀c l,X=c :: l->c=101:=by
 intro c l e;cases h with
 | none=>cases e
 | bare _ _=>cases e;rfl
 | plus _ _=>cases e;rfl
 | minus _ _=>cases e;rfl
theorem exp_okC {X:List UInt8} {x:Int} (h:ExpAt X x):∀b∈X,okC b:=by
 intro b hb;cases h with
 | none=>cases hb
 | bare _ hd=>
   rcases List.mem_cons.1 hb with rfl | hb
   · exact .inr (.inr (.inl rfl))
   · exact .inl (hd b hb)
 | plus _ hd=>
   rcases List.mem_cons.1 hb with rfl | hb
   · exact .inr (.inr (.inl rfl))
   · rcases List.mem_cons.1 hb with rfl | hb
     · exact .inr (.inr (.inr (.inl rfl)))
     · exact .inl (hd b hb)
 | minus _ hd=>
   rcases List.mem_cons.1 hb with rfl | hb
   · exact .inr (.inr (.inl rfl))
   · rcases List.mem_cons.1 hb with rfl | hb
     · exact .inr (.inr (.inr (.inr rfl)))
     · exact .inl (hd b hb)
def Cd (fr:Bool) (F:List UInt8):List UInt8:=if fr then 46 :: F else []
theorem scan_exp {X:List UInt8} {x:Int} (h:ExpAt X x) (d:Bool) (L:List UInt8) (m:Nat):Cw X d L m=(d,L,m,X):=by
 cases hx:X with
 | nil=>rfl
 | cons c l=>
   have:=exp_head h c l hx;subst this;rw [Cw,if_neg (by decide),if_neg (by decide)]
theorem scan_form {A F X:List UInt8} {fr:Bool} {x:Int} (hAd:∀c∈A,isD c=true) (hF:fr=false->F=[]) (hFd:∀c∈F,isD c=true) (hX:ExpAt X x) :
   Cw (A++(Cd fr F++X)) false [] 0=(fr,A++F,if fr then F.length else A.length,X):=by
 rw [Ej hAd,List.nil_append,Nat.zero_add]
 cases fr
 · rw [hF rfl]
   show Cw X false A A.length=_;rw [scan_exp hX,List.append_nil];rfl
 · show Cw (46 :: (F++X)) false A A.length=_
   rw [Cw,if_pos (by decide),if_neg (by decide),Ej hFd,scan_exp hX,Nat.zero_add];rfl
theorem txt_form {s:ByteArray} {A F X:List UInt8} {fr:Bool} {x:Int} {neg:Bool} (hs:s.data.toList=A0 neg++(A++(Cd fr F++X))) (hz:s.size<=1000) (hA:A≠[]) (hAd:∀c∈A,isD c=true) (hF:fr=false->F=[])
   (hFd:∀c∈F,isD c=true) (hX:ExpAt X x):FTxt s neg fr (A++F) (if fr then F.length else A.length) x/\∃c l,s.data.toList=(if neg then [45] else [])++c :: l/\isD c=true:=by
 cases hAe:A with
 | nil=>exact absurd hAe hA
 | cons c T=>
   have hc:=hAd c (by rw [hAe];exact List.mem_cons_self ..);have e:A++(Cd fr F++X)=c :: (T++(Cd fr F++X)):=by rw [hAe];rfl
   rw [<-hAe];refine ⟨⟨⟨c,T++(Cd fr F++X),X,?_,hc,?_,hX,?_⟩,hz,fun e=>hA (List.append_eq_nil_iff.1 e).1⟩,c,T++(Cd fr F++X),?_,hc⟩
   · rw [hs,e];rfl
   · rw [<-e];exact scan_form hAd hF hFd hX
   · intro b hb
     rw [<-e] at hb;rcases List.mem_append.1 hb with hb | hb
     · exact .inl (hAd b hb)
     · rcases List.mem_append.1 hb with hb | hb
       · unfold Cd at hb
         cases fr
         · cases hb
         · rcases List.mem_cons.1 hb with rfl | hb
           · exact .inr (.inl rfl)
           · exact .inl (hFd b hb)
       · exact exp_okC hX b hb
   · rw [hs,e];rfl
theorem exp_uniq {X:List UInt8} {x y:Int} (h:ExpAt X x) (h' : ExpAt X y):x=y:=by
 have nd:∀{E:List UInt8} {c:UInt8} {l:List UInt8},(∀b∈E,isD b=true)->E=c :: l->isD c=false->False:=fun hd e hc=>by
   rw [hd _ (by rw [e];exact List.mem_cons_self ..)] at hc;cases hc
 cases h with
 | none=>cases h'; rfl
 | @bare E hE hd=>
   generalize hX:(101 :: E:List UInt8)=Y at h';cases h' with
   | none=>cases hX
   | bare=>cases hX;rfl
   | plus=>cases hX;exact (nd hd rfl (by decide)).elim
   | minus=>cases hX;exact (nd hd rfl (by decide)).elim
 | @plus E hE hd=>
   generalize hX:(101 :: 43 :: E:List UInt8)=Y at h';cases h' with
   | none=>cases hX
   | bare _ hd2=>cases hX;exact (nd hd2 rfl (by decide)).elim
   | plus=>cases hX;rfl
   | minus=>cases hX
 | @minus E hE hd=>
   generalize hX:(101 :: 45 :: E:List UInt8)=Y at h';cases h' with
   | none=>cases hX
   | bare _ hd2=>cases hX;exact (nd hd2 rfl (by decide)).elim
   | plus=>cases hX
   | minus=>cases hX;rfl
theorem txt_uniq {s:ByteArray} {neg neg' d d' : Bool} {L L' : List UInt8} {m m' : Nat} {x x' : Int} (h:FTxt s neg d L m x) (h' : FTxt s neg' d' L' m' x'):neg=neg' /\ d=d' /\ L=L' /\ m=m' /\ x=x' := by
 obtain ⟨⟨c,b,r,h1,h2,h3,h4,_⟩,_,_⟩:=h;obtain ⟨⟨c', b', r', k1,k2,k3,k4,_⟩,_,_⟩:=h';have e:=h1.symm.trans k1;have n45:∀{c:UInt8},isD c=true->c≠45:=fun hc e=>by subst e;exact absurd hc (by decide)
 have key:neg=neg' /\ c :: b=c' :: b' := by
   cases neg<;>cases neg'
   · exact ⟨rfl,e⟩
   · exact absurd (List.cons.inj e).1 (n45 h2)
   · exact absurd (List.cons.inj e).1.symm (n45 k2)
   · exact ⟨rfl,(List.cons.inj e).2⟩
 rw [key.2,k3] at h3;simp only [Prod.mk.injEq] at h3;obtain ⟨e1,e2,e3,e4⟩:=h3;rw [<-e4] at h4;exact ⟨key.1,e1.symm,e2.symm,e3.symm,exp_uniq h4 k4⟩
theorem decA_tens {d r:Nat}:∀(j:Nat) (p:Int),InI r (decA (d * 10 ^ j) p) (Ao p) ↔ InI r (decA d (p+j)) (Ao (p+j))
 | 0,p=>by simp
 | j+1,p=>by
   rw [Nat.pow_succ,<-Nat.mul_assoc,decA_ten,decA_tens j (1+p),show 1+p+(j:Int)=p+((j+1:Nat):Int) by omega]
theorem dig_spec {r:Nat} (h0:0<r) (hr:r<9218868437227405312):∃c T,digL r=c :: T/\c≠48/\(digL r).length<=18/\InI r (decA (valD (digL r)) (A9 r - (digL r).length)) (Ao (A9 r - (digL r).length))/\0<valD (digL r):=by
 obtain ⟨a,b,_,_⟩:=Ds h0 hr;have hok:=short_ok h0 hr;unfold digL A9;rw [if_neg (by omega),if_neg (by omega)];obtain ⟨d,hd⟩:∃d,(Aj r).1=d:=⟨_,rfl⟩;obtain ⟨q,hq⟩:∃q,(Aj r).2=q:=⟨_,rfl⟩;rw [hd] at a b hok ⊢;rw [hq] at hok ⊢;obtain ⟨n,hn⟩:=D6 (Lib.decDigits d);have hlen:=congrArg List.length hn;rw [List.length_append,List.length_replicate,Lib.decDigits_length] at hlen;have hval:d=valD (Az (Lib.decDigits d)) * 10 ^ n:=by
   have h1:=stripZ_val (Lib.decDigits d);rw [Db,Lib.decDigits_length,hlen,Nat.add_sub_cancel_left] at h1;exact h1
 have h18:Lib.nDigits d<=18:=nDig_le 17 d b;obtain ⟨c,l,hc,hc48⟩:=dec_head (u:=d) a;obtain ⟨D,hD⟩:∃D,Az (Lib.decDigits d)=D:=⟨_,rfl⟩;rw [hD] at hn hlen hval ⊢;have hv0:0<valD D:=by
   rcases Nat.eq_zero_or_pos (valD D) with h | h
   · rw [h,Nat.zero_mul] at hval;omega
   · exact h
 cases D with
 | nil=>exact absurd hv0 (by decide)
 | cons c2 T=>
   refine ⟨c2,T,rfl,?_,by omega,?_,hv0⟩
   · rw [hn,List.cons_append] at hc
     rw [(List.cons.inj hc).1];exact hc48
   · rw [hval] at hok
     have:=(decA_tens n q).1 hok;have e:((Lib.nDigits d:Nat):Int)+q - ((c2 :: T).length:Nat)=q+(n:Int):=by omega
     rw [e];exact this
def topP (n:Nat):Nat:=1 * 10 ^ n * 2 ^ Go.Proofs.YtagkgfniihiinaaGreatDoor.hp
theorem mid_topP:mid 9218868437227405311<topP 311:=by decide +kernel
def lowP:Nat:=18446744073709551616 * 10 ^ 0 * 2 ^ Go.Proofs.YtagkgfniihiinaaGreatDoor.hp
def tenP (n:Nat):Nat:=10 ^ n
theorem low_topP:lowP<tenP 346:=by decide +kernel
theorem dec_low {d D:Nat} (hd:d<=D) (c:Nat) {n m:Nat} (h:n<=m):d * 10 ^ n * 2 ^ c<=D * 10 ^ m * 2 ^ c:=
 Nat.mul_le_mul_right _ (Nat.mul_le_mul hd (Nat.pow_le_pow_right (by decide) h))
theorem p_bounds {r d:Nat} {p:Int} (h0:0<r) (hr:r<9218868437227405312) (hd:0<d) (hd2:d<=18446744073709551616) (h:InI r (decA d p) (Ao p)):-345<=p/\p<=310:=by
 constructor
 · rcases Int.lt_or_le p (-345) with h1 | h1
   · exfalso
     obtain ⟨n,hn⟩:∃n:Nat,n=346:=⟨_,rfl⟩;have hlo:lowP<tenP n:=by rw [hn];exact low_topP
     have hb:tenP n<=Ao p:=Nat.pow_le_pow_right (by decide) (by omega);clear hn;have h2:mid (r - 1) * Ao p<=decA d p:=by
       rcases h.low with h | h | h
       · omega
       · exact Nat.le_of_lt h
       · exact Nat.le_of_eq h.1
     have h3:1<=mid (r - 1):=by
       have:=mid_le (r:=0) (s:=r - 1) (Nat.zero_le _);exact Nat.le_trans (by decide +kernel) this
     have h4:Ao p<=mid (r - 1) * Ao p:=Nat.le_mul_of_pos_left _ h3;have h5:decA d p<=lowP:=dec_low hd2 Go.Proofs.YtagkgfniihiinaaGreatDoor.hp (by omega);exact absurd (Nat.le_trans hb (Nat.le_trans h4 (Nat.le_trans h2 h5))) (Nat.not_le.2 hlo)
   · exact h1
 · rcases Int.lt_or_le 310 p with h1 | h1
   · exfalso
     have hb:Ao p=1:=by unfold Ao;rw [show (-p).toNat=0 by omega,Nat.pow_zero]
     have h2:decA d p<=mid r * Ao p:=by
       rcases h.high with h | h
       · exact Nat.le_of_lt h
       · exact Nat.le_of_eq h.1
     rw [hb,Nat.mul_one] at h2;have h3:mid r<=mid 9218868437227405311:=mid_le (by omega);obtain ⟨n,hn⟩:∃n:Nat,n=311:=⟨_,rfl⟩;have h6:mid 9218868437227405311<topP n:=by rw [hn];exact mid_topP
     have h311:n<=p.toNat:=by omega
     have h5:topP n<=decA d p:=dec_low hd Go.Proofs.YtagkgfniihiinaaGreatDoor.hp h311;clear hn;exact absurd (Nat.le_trans h5 (Nat.le_trans h2 h3)) (Nat.not_le.2 h6)
   · exact h1
def eL (n:Nat):List UInt8:=if n<10 then [48,dg8 n] else if n<100 then [dg8 (n / 10),dg8 (n % 10)] else [dg8 (n / 100),dg8 (n / 10 % 10),dg8 (n % 10)]
def eOk (n:Nat):Bool:=!(eL n).isEmpty && (eL n).all isD && (capE (eL n) == n)
theorem exp_tab:allN 1000 eOk=true:=by decide +kernel
theorem expL_is (x:Int) (h:x.natAbs<1000):ExpAt (101 :: expL x) x:=by
 have key:=Cp exp_tab x.natAbs h;unfold eOk at key;rw [show expL x=(if x<0 then 45 else 43) :: eL x.natAbs from rfl];generalize eL x.natAbs=E at key ⊢;rw [Bool.and_eq_true,Bool.and_eq_true,beq_iff_eq,List.all_eq_true] at key;obtain ⟨⟨k0,k2⟩,k3⟩:=key;have k1:E≠[]:=fun e=>by rw [e] at k0;cases k0
 split
 · have:=ExpAt.minus k1 k2
   rw [k3] at this;rw [show x=-((x.natAbs:Nat):Int) by omega];rw [show (-((x.natAbs:Nat):Int))=-((x.natAbs:Nat):Int) from rfl] at this;exact this
 · have:=ExpAt.plus k1 k2
   rw [k3] at this;rw [show x=((x.natAbs:Nat):Int) by omega];exact this
theorem rep_dig (k:Nat):∀c∈List.replicate k (48:UInt8),isD c=true:=fun c hc=>by
 rw [List.eq_of_mem_replicate hc];decide
theorem valD_rep (k:Nat):valD (List.replicate k 48)=0:=Dg fun c hc=>List.eq_of_mem_replicate hc
theorem mant_form {a k:Nat} {c:UInt8} {T:List UInt8} (hc:c≠48) (hl:(c :: T).length<=18) :
   ndF (List.replicate a 48++((c :: T)++List.replicate k 48))=(c :: T).length+k /\
   Bi (List.replicate a 48++((c :: T)++List.replicate k 48))=valD (c :: T) * 10 ^ (min k (19 - (c :: T).length))/\Bx (List.replicate a 48++((c :: T)++List.replicate k 48))=false:=by
 have hs:Ca (List.replicate a 48++((c :: T)++List.replicate k 48))=(c :: T)++List.replicate k 48:=by
   induction a with
   | zero=>
     unfold Ca;rw [List.replicate_zero,List.nil_append,List.cons_append,List.dropWhile_cons_of_neg (by simpa using hc)]
   | succ a ih=>
     unfold Ca at ih ⊢;rw [List.replicate_succ,List.cons_append,List.dropWhile_cons_of_pos (by rfl)];exact ih
 unfold ndF Bi Bx
 rw [hs]
 refine ⟨by rw [List.length_append,List.length_replicate],?_,?_⟩
 · rw [List.take_append,List.take_of_length_le (by omega),List.take_replicate,Dj,valD_rep,Nat.add_zero,List.length_replicate,Nat.min_comm]
 · rw [List.drop_append,List.drop_of_length_le (by omega),List.nil_append,List.drop_replicate,List.any_eq_false]
   intro x hx;rw [List.eq_of_mem_replicate hx];decide
theorem read_form {r a k m:Nat} {c:UInt8} {T L:List UInt8} {fr:Bool} {x p:Int} (h0:0<r) (hr:r<9218868437227405312) (hc:c≠48) (hdig:∀b∈c :: T,isD b=true) (hl:(c :: T).length<=18)
   (hin:InI r (decA (valD (c :: T)) p) (Ao p)) (hv:0<valD (c :: T)) (hL:L=List.replicate a 48++((c :: T)++List.replicate k 48))
   (hx:(if fr then (((c :: T).length+k:Nat):Int) - m else (((c :: T).length+k:Nat):Int))+x=(c :: T).length+p) :
   0<Bi L/\Bi L<18446744073709551616/\Bx L=false/\-345<=expF fr L m x/\expF fr L m x<=310/\InI r (decA (Bi L) (expF fr L m x)) (Ao (expF fr L m x)):=by
 obtain ⟨m1,m2,m3⟩:=mant_form (a:=a) (k:=k) hc hl
 have hLd:∀b∈L,isD b=true:=fun b hb=>by
   rw [hL] at hb;rcases List.mem_append.1 hb with hb | hb
   · exact rep_dig _ b hb
   · rcases List.mem_append.1 hb with hb | hb
     · exact hdig b hb
     · exact rep_dig _ b hb
 have h19:=mantF_lt19 hLd
 rw [<-hL] at m1 m2 m3
 have hpos:0<Bi L:=by rw [m2];exact Nat.mul_pos hv (Nat.pow_pos (by decide))
 have he:expF fr L m x+((min k (19 - (c :: T).length):Nat):Int)=p:=by
   unfold expF;rw [if_neg (by omega),m1];omega
 have hI:InI r (decA (Bi L) (expF fr L m x)) (Ao (expF fr L m x)):=by
   rw [m2,decA_tens,he];exact hin
 obtain ⟨b1,b2⟩:=p_bounds h0 hr hpos (by omega) hI
 exact ⟨hpos,by omega,m3,b1,b2,hI⟩
structure NumT (s:ByteArray) (neg:Bool) (r:Nat) (d:Bool) (L:List UInt8) (m:Nat) (x:Int):Prop where
 txt:FTxt s neg d L m x
 pos:0<Bi L
 lt:Bi L<18446744073709551616
 whole:Bx L=false
 low:-345<=expF d L m x
 high:expF d L m x<=310
 near:InI r (decA (Bi L) (expF d L m x)) (Ao (expF d L m x))
 head:∃c l,s.data.toList=(if neg then [45] else [])++c :: l/\isD c=true
 parts:∃A F X fr y,s.data.toList=A0 neg++(A++(Cd fr F++X))/\A≠[]/\(∀c∈A,isD c=true)/\(fr=true->F≠[])/\(∀c∈F,isD c=true)/\ExpAt X y
theorem F7 {s:ByteArray} {A F X:List UInt8} {fr neg:Bool} {x p:Int} {r a k:Nat} {c:UInt8} {T:List UInt8} (h0:0<r) (hr:r<9218868437227405312) (hc:c≠48) (hdig:∀b∈c :: T,isD b=true) (hl:(c :: T).length<=18)
   (hin:InI r (decA (valD (c :: T)) p) (Ao p)) (hv:0<valD (c :: T)) (hs:s.data.toList=A0 neg++(A++(Cd fr F++X))) (hz:s.size<=1000) (hA:A≠[]) (hAd:∀c∈A,isD c=true) (hF:fr=true->F≠[]) (hF2:fr=false->F=[])
   (hFd:∀c∈F,isD c=true) (hX:ExpAt X x) (hL:A++F=List.replicate a 48++((c :: T)++List.replicate k 48))
   (hx:(if fr then (((c :: T).length+k:Nat):Int) - ((if fr then F.length else A.length:Nat):Int) else (((c :: T).length+k:Nat):Int))+x=(c :: T).length+p) :
   NumT s neg r fr (A++F) (if fr then F.length else A.length) x:=by
 obtain ⟨h1,h2⟩:=txt_form hs hz hA hAd hF2 hFd hX
 obtain ⟨m1,m2,m3,m4,m5,m6⟩:=read_form (fr:=fr) (m:=if fr then F.length else A.length) (x:=x) h0 hr hc hdig hl hin hv hL hx
 exact ⟨h1,m1,m2,m3,m4,m5,m6,h2,A,F,X,fr,x,hs,hA,hAd,hF,hFd,hX⟩
theorem Cu {s:ByteArray} {neg:Bool} {r:Nat} (h0:0<r) (hr:r<9218868437227405312) (hs:s.data.toList=A0 neg++Bf r):s.size<=25/\∃d L m x,NumT s neg r d L m x:=by
 obtain ⟨c,T,hD,hc,hl,hin,hv⟩:=dig_spec h0 hr;have hdig:=digL_isD r;obtain ⟨b1,b2⟩:=Eh hr;have hsg:(A0 neg).length<=1:=by unfold A0;split<;>simp
 have hsz:s.size=(A0 neg).length+(Bf r).length:=by rw [Aw,hs,List.length_append]
 unfold Bf at hs hsz;have hne:digL r≠[]:=by rw [hD];simp
 have hex:expN r=A9 r - 1:=by unfold expN;rw [if_neg hne]
 rw [if_neg (by omega),hex] at hs hsz;obtain ⟨dp,hdp⟩:∃dp,A9 r=dp:=⟨_,rfl⟩;rw [hdp] at hs hsz hin b1 b2;rw [hD] at hs hsz hin hdig hl hv;clear hD hne hex hdp;have hll:(c :: T).length=T.length+1:=rfl;by_cases he:dp - 1 < -4\/21<=dp - 1
 · rw [if_pos he] at hs hsz
   have hE:effE false (c :: T) dp=[c]++(Cd (decide (1<(c :: T).length)) T++(101 :: expL (dp - 1))):=by
     unfold effE Cd;rw [if_neg (List.cons_ne_nil c T)];by_cases h1:1<(c :: T).length
     · rw [if_pos h1,if_pos (decide_eq_true h1)]
       simp [A0]
     · rw [if_neg h1,if_neg (by simpa using h1)]
       simp [A0]
   rw [hE] at hs hsz;have hel:=expL_len (dp - 1);have hz:s.size<=25:=by
     rw [hsz];unfold Cd;split<;>simp only [List.length_append,List.length_cons,List.length_nil]<;>omega
   refine ⟨hz,_,_,_,_,F7 (fr:=decide (1<(c :: T).length)) (a:=0) (k:=0) (A:=[c]) (F:=T) (x:=dp - 1) h0 hr hc hdig hl hin hv hs (by omega) (by simp) ?_ ?_ ?_ ?_ (expL_is _ (by omega)) (by simp) ?_⟩
   · intro b hb
     rw [List.mem_singleton] at hb;subst hb;exact hdig _ (List.mem_cons_self ..)
   · intro h1 h2
     have:=of_decide_eq_true h1;rw [h2] at this;simp at this
   · intro h1
     have:=of_decide_eq_false h1;cases T with
     | nil=>rfl
     | cons a l=>simp at this
   · exact fun b hb=>hdig b (List.mem_cons_of_mem _ hb)
   · by_cases h1:1<(c :: T).length
     · rw [decide_eq_true h1,if_pos rfl,if_pos rfl];omega
     · rw [decide_eq_false h1,if_neg (by decide)];omega
 · rw [if_neg he] at hs hsz
   rcases Int.lt_or_le 0 dp with hp | hp
   · rcases Int.lt_or_le dp (c :: T).length with hq | hq
     · have hF:effF false (c :: T) dp=(c :: T).take dp.toNat++(Cd true ((c :: T).drop dp.toNat)++[]):=by
         unfold effF Cd;rw [if_pos hp,if_pos hq,if_pos rfl,show dp.toNat - (c :: T).length=0 by omega,show (-dp).toNat=0 by omega];simp [A0]
       rw [hF] at hs hsz;have hz:s.size<=25:=by
         rw [hsz];unfold Cd;rw [if_pos rfl,List.length_append,List.length_append,List.length_cons,List.length_take,List.length_drop,List.length_nil];omega
       refine ⟨hz,_,_,_,_,F7 (fr:=true) (a:=0) (k:=0) (x:=0) h0 hr hc hdig hl hin hv hs (by omega) ?_ (fun b hb=>hdig b (List.mem_of_mem_take hb)) ?_ (fun h=>by cases h) (fun b hb=>hdig b (List.mem_of_mem_drop hb)) .none ?_ ?_⟩
       · intro h
         have:=congrArg List.length h;rw [List.length_take,List.length_nil] at this;omega
       · intro _ h
         have:=congrArg List.length h;rw [List.length_drop,List.length_nil] at this;omega
       · rw [List.take_append_drop];simp
       · rw [if_pos rfl,if_pos rfl,List.length_drop];omega
     · have hF:effF false (c :: T) dp=((c :: T)++List.replicate (dp.toNat - (c :: T).length) 48)++(Cd false []++[]):=by
         unfold effF Cd;rw [if_pos hp,if_neg (by omega),if_neg (by decide),List.take_of_length_le (by omega)];simp [A0]
       rw [hF] at hs hsz;have hz:s.size<=25:=by
         rw [hsz];unfold Cd;rw [if_neg (by decide),List.length_append,List.length_append,List.length_append,List.length_replicate,List.length_nil];omega
       refine ⟨hz,_,_,_,_,F7 (fr:=false) (a:=0) (k:=dp.toNat - (c :: T).length) (x:=0) h0 hr hc hdig hl hin hv hs (by omega) (by simp) ?_ (fun h=>by cases h) (fun _=>rfl) (fun b hb=>by cases hb) .none ?_ ?_⟩
       · intro b hb
         rcases List.mem_append.1 hb with hb | hb
         · exact hdig b hb
         · exact rep_dig _ b hb
       · simp
       · rw [if_neg (by decide)];omega
   · have hF:effF false (c :: T) dp=[48]++(Cd true (List.replicate (-dp).toNat 48++(c :: T))++[]):=by
       unfold effF Cd;rw [if_neg (by omega),if_pos (by omega),if_pos rfl,show dp.toNat=0 by omega];simp [A0]
     rw [hF] at hs hsz;have hz:s.size<=25:=by
       rw [hsz];unfold Cd;rw [if_pos rfl];simp only [List.length_append,List.length_cons,List.length_replicate,List.length_nil];simp only [List.length_cons] at hll hl;omega
     refine ⟨hz,_,_,_,_,F7 (fr:=true) (a:=(-dp).toNat+1) (k:=0) (x:=0) h0 hr hc hdig hl hin hv hs (by omega) (by simp) ?_ (fun _=>by simp) (fun h=>by cases h) ?_ .none ?_ ?_⟩
     · intro b hb
       rw [List.mem_singleton] at hb;subst hb;decide
     · intro b hb
       rcases List.mem_append.1 hb with hb | hb
       · exact rep_dig _ b hb
       · exact hdig b hb
     · rw [List.replicate_succ];simp
     · rw [if_pos rfl,if_pos rfl,List.length_append,List.length_replicate];omega
theorem Dl:Bf 0=[48]:=by decide +kernel
theorem Ff {s:ByteArray} {l:List UInt8} (h:s.data.toList=l):s=⟨l.toArray⟩:=ByteArray.ext (Array.toList_inj.1 h)
theorem word_split (n:Nat) (h:n<18446744073709551616):n=(if decide (9223372036854775808<=n)=true then 9223372036854775808 else 0)+n % 9223372036854775808:=by
 by_cases h1:9223372036854775808<=n
 · rw [decide_eq_true h1,if_pos rfl];omega
 · rw [decide_eq_false h1,if_neg (by decide)];omega
theorem Fo {r:Nat} (h:r<=9218868437227405312):∃c l,Bf r=c :: l/\(r=9218868437227405312->c=105)/\(r≠9218868437227405312->isD c=true):=by
 by_cases h1:r=9218868437227405312
 · exact ⟨105,[110,102],by unfold Bf;rw [if_pos h1],fun _=>rfl,fun h=>absurd h1 h⟩
 · rcases Nat.eq_zero_or_pos r with h0 | h0
   · subst h0
     exact ⟨48,[],Dl,fun h=>absurd h h1,fun _=>by decide⟩
   · obtain ⟨_,d,L,m,x,hR⟩:=Cu (s:=⟨(Bf r).toArray⟩) (neg:=false) h0 (by omega) rfl
     obtain ⟨c,l,h3,h4⟩:=hR.head;exact ⟨c,l,h3,fun h=>absurd h h1,fun _=>h4⟩
theorem bare_inj {r q:Nat} (hr:r<=9218868437227405312) (hq:q<=9218868437227405312) (h:Bf r=Bf q):r=q:=by
 have hz:∀r,0<r->r<9218868437227405312->Bf r=Bf 0->False:=fun r h0 h1 h=>by
   obtain ⟨_,d,L,m,x,hR⟩:=Cu (s:=⟨(Bf r).toArray⟩) (neg:=false) h0 h1 rfl;have ht:=hR.txt
   have hf:=(txt_form (s:=⟨(Bf r).toArray⟩) (A:=[48]) (F:=[]) (X:=[]) (fr:=false) (x:=0) (neg:=false) (by show Bf r=[48];rw [h,Dl]) (by rw [h,Dl];decide) (by simp)
     (fun c hc=>by rw [List.mem_singleton.1 hc];decide) (fun _=>rfl) (fun c hc=>by cases hc) .none).1
   have hu:=(txt_uniq ht hf).2.2.1;have hp:=hR.pos;rw [hu] at hp;exact absurd hp (by decide +kernel)
 obtain ⟨c,l,e1,i1,d1⟩:=Fo hr;obtain ⟨c', l', e2,i2,d2⟩:=Fo hq;have hcc:c=c' := by rw [e1,e2] at h;exact (List.cons.inj h).1
 by_cases h1:r=9218868437227405312
 · by_cases h2:q=9218868437227405312
   · rw [h1,h2]
   · have:=d2 h2
     rw [<-hcc,i1 h1] at this;exact absurd this (by decide)
 · by_cases h2:q=9218868437227405312
   · have:=d1 h1
     rw [hcc,i2 h2] at this;exact absurd this (by decide)
   · rcases Nat.eq_zero_or_pos r with h3 | h3
     · rcases Nat.eq_zero_or_pos q with h4 | h4
       · rw [h3,h4]
       · rw [h3] at h;exact (hz q h4 (by omega) h.symm).elim
     · rcases Nat.eq_zero_or_pos q with h4 | h4
       · rw [h4] at h;exact (hz r h3 (by omega) h).elim
       · obtain ⟨_,d,L,m,x,hR⟩:=Cu (s:=⟨(Bf r).toArray⟩) (neg:=false) h3 (by omega) rfl
         obtain ⟨_,d', L', m', x', hQ⟩:=Cu (s:=⟨(Bf r).toArray⟩) (neg:=false) h4 (by omega) h;obtain ⟨_,rfl,rfl,rfl,rfl⟩:=txt_uniq hR.txt hQ.txt;exact hR.near.uniq (Nat.pow_pos (by decide)) hQ.near
theorem C1 {n:Nat} (h:nanF n=false):n % 9223372036854775808<=9218868437227405312:=by
 unfold nanF at h;have:=of_decide_eq_false h;omega
theorem text_inj {a b:Nat} (ha:a<18446744073709551616) (hb:b<18446744073709551616) (h:A5 a=A5 b):C2 a=C2 b:=by
 have key:∀{a b:Nat},nanF a=true->nanF b=false->A5 a=A5 b->False:=fun {a b} h1 h2 h=>by
   rw [Dw h1,Cs h2] at h;obtain ⟨c,l,e,i,d⟩:=Fo (C1 h2);rw [e] at h;by_cases hs:9223372036854775808<=b
   · rw [decide_eq_true hs] at h
     exact absurd (List.cons.inj h).1 (by decide)
   · rw [decide_eq_false hs] at h
     have hc:(110:UInt8)=c:=(List.cons.inj h).1;by_cases hi:b % 9223372036854775808=9218868437227405312
     · rw [i hi] at hc;exact absurd hc (by decide)
     · have:=d hi
       rw [<-hc] at this;exact absurd this (by decide)
 cases na:nanF a with
 | true=>
   cases nb:nanF b with
   | true=>rw [(Fq a).2 na,(Fq b).2 nb]
   | false=>exact (key na nb h).elim
 | false=>
   cases nb:nanF b with
   | true=>exact (key nb na h.symm).elim
   | false=>
     rw [Cs na,Cs nb] at h;obtain ⟨c,l,e1,i1,d1⟩:=Fo (C1 na);obtain ⟨c', l', e2,i2,d2⟩:=Fo (C1 nb);have n45:c≠45:=fun e=>by
       by_cases hi:a % 9223372036854775808=9218868437227405312
       · rw [i1 hi] at e;exact absurd e (by decide)
       · have:=d1 hi
         rw [e] at this;exact absurd this (by decide)
     have n45' : c' ≠ 45:=fun e=>by
       by_cases hi:b % 9223372036854775808=9218868437227405312
       · rw [i2 hi] at e;exact absurd e (by decide)
       · have:=d2 hi
         rw [e] at this;exact absurd this (by decide)
     have hsp:=word_split a ha;have hsq:=word_split b hb;have ca:C2 a=a:=by unfold C2;rw [na];rfl
     have cb:C2 b=b:=by unfold C2;rw [nb];rfl
     rw [ca,cb,hsp,hsq];have hr:=C1 na;have hq:=C1 nb;clear hsp hsq ca cb na nb;generalize a % 9223372036854775808=r at *;generalize b % 9223372036854775808=q at *;generalize decide (9223372036854775808<=a)=sa at *;generalize decide (9223372036854775808<=b)=sb at *;cases sa<;>cases sb
     · rw [bare_inj hr hq h]
     · rw [e1] at h;exact absurd (List.cons.inj h).1 n45
     · rw [e2] at h;exact absurd (List.cons.inj h).1.symm n45'
     · rw [bare_inj hr hq (List.cons.inj h).2]
theorem text_len {n:Nat} (h:n<18446744073709551616):(A5 n).length<=25:=by
 cases hnan:nanF n with
 | true=>rw [Dw hnan];decide
 | false=>
   rw [Cs hnan];have hb:=C1 hnan;have hl:(A0 (decide (9223372036854775808<=n))).length<=1:=by unfold A0;split<;>simp
   rcases Nat.eq_or_lt_of_le hb with h1 | h1
   · rw [h1,List.length_append,show (Bf 9218868437227405312).length=3 from by unfold Bf;rw [if_pos rfl];rfl];omega
   · rcases Nat.eq_zero_or_pos (n % 9223372036854775808) with h0 | h0
     · rw [h0,Dl,List.length_append]
       simp;omega
     · obtain ⟨hz,_⟩:=Cu (s:=⟨(A0 (decide (9223372036854775808<=n))++Bf (n % 9223372036854775808)).toArray⟩) h0 h1 rfl
       exact hz
end Go.Proofs.YtagkgfniihiinaaGreatDoor
