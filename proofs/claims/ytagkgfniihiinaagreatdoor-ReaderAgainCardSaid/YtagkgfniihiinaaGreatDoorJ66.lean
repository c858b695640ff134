/- real.Text, at every number. -/
import Derived.Test.YtagkgfniihiinaaGreatDoorReal
import Derived.Test.YtagkgfniihiinaaGreatDoorRIs
import Derived.Lib.SmallJoins
import Derived.Test.YtagkgfniihiinaaGreatDoorJ52
import Derived.Test.YtagkgfniihiinaaGreatDoorJ80
set_option linter.all false
namespace Go.Proofs.YtagkgfniihiinaaGreatDoor
open Go.RowKit
theorem atoi_exp:∀k:Fin 1999,Lib.atoi (expL ((k.val:Int) - 999))=some ((k.val:Int) - 999):=by decide +kernel
theorem atoi_expL {x:Int} (h0:-999<=x) (h1:x<=999):Lib.atoi (expL x)=some x:=by
 have:=atoi_exp ⟨(x+999).toNat,by omega⟩;simp only at this;rw [show (((x+999).toNat:Nat):Int) - 999=x by omega] at this;exact this
theorem index_past {A E:List UInt8} {c:UInt8} (h:∀b∈A,b≠c):Lib.indexByte (A++c :: E) c=A.length:=by
 induction A with
 | nil=>simp [Lib.indexByte]
 | cons a A ih=>
   have h1:=ih (fun b hb=>h b (List.mem_cons_of_mem _ hb));have h2:(a == c)=false:=by simpa using h a (List.mem_cons_self ..)
   rw [List.cons_append,Lib.indexByte,h2,h1];have h3:((A.length:Int) == -1)=false:=by simp
   rw [h3];simp
def D6 (neg:Bool) (D:List UInt8):List UInt8:=A3 neg++[D.headD 48]++(if 1<D.length then 46 :: D.tail else [])
theorem effE_front (neg:Bool) (D:List UInt8) (dp:Int):effE neg D dp=D6 neg D++101 :: expL (if D=[] then 0 else dp - 1):=by
 unfold effE D6;simp
theorem front_len (neg:Bool) (D:List UInt8):(D6 neg D).length<=3+D.length:=by
 unfold D6;rw [List.length_append,List.length_append];have h1:(A3 neg).length<=1:=by unfold A3;split<;>simp
 have h2:(if 1<D.length then 46 :: D.tail else []:List UInt8).length<=1+D.length:=by split<;>simp<;>omega
 simp only [List.length_singleton];omega
theorem front_ne {neg:Bool} {D:List UInt8} (hd:∀c∈D,isD c=true):∀b∈D6 neg D,b≠101:=by
 have key:∀c:UInt8,isD c=true->c≠101:=fun c h e=>by rw [e] at h;revert h;decide
 intro b hb;unfold D6 at hb;rw [List.mem_append,List.mem_append] at hb;rcases hb with (hb | hb) | hb
 · unfold A3 at hb
   split at hb
   · rw [List.mem_singleton] at hb;rw [hb];decide
   · simp at hb
 · rw [List.mem_singleton] at hb
   rw [hb];cases D with
   | nil=>decide
   | cons a l=>exact key a (hd a (List.mem_cons_self ..))
 · split at hb
   · rw [List.mem_cons] at hb
     rcases hb with hb | hb
     · rw [hb];decide
     · exact key b (hd b (List.mem_of_mem_tail hb))
   · simp at hb
theorem digL_isD (r:Nat):∀c∈digL r,isD c=true:=by
 intro c hc;unfold digL at hc;split at hc
 · simp at hc
 · exact Dk _ c (stripZ_mem hc)
theorem point_bounds {r:Nat} (hr:r<9218868437227405312):-400<=Bh r/\Bh r<=400:=by
 unfold Bh;split
 · omega
 · obtain ⟨a,b,c,d⟩:=Dj (r:=r) (by omega) hr
   have:=Lib.nDigits_le20 (A2 r).1 (by omega);have:=Lib.nDigits_pos (A2 r).1;omega
theorem digL_len (r:Nat) (hr:r<9218868437227405312):(digL r).length<=20:=by
 unfold digL;split
 · simp
 · obtain ⟨a,b,c,d⟩:=Dj (r:=r) (by omega) hr
   have:=Fp (Lib.decDigits (A2 r).1);rw [Lib.decDigits_length] at this;have:=Lib.nDigits_le20 (A2 r).1 (by omega);omega
def expN (r:Nat):Int:=if digL r=[] then 0 else Bh r - 1
theorem Eh {n:Nat} (h:nanF n=true):Bl n=[110,97,110]:=if_pos h
theorem realL_inf {n:Nat} (h:nanF n=false) (h2:n % 9223372036854775808=9218868437227405312):Bl n=A3 (decide (9223372036854775808<=n))++[105,110,102]:=by
 unfold Bl;rw [if_neg (by simp [h]),if_pos h2]
theorem realL_num {n:Nat} (h:nanF n=false) (h2:n % 9223372036854775808≠9218868437227405312):Bl n =
   if expN (n % 9223372036854775808) < -4\/21<=expN (n % 9223372036854775808) then effE (decide (9223372036854775808<=n)) (digL (n % 9223372036854775808)) (Bh (n % 9223372036854775808))
   else effF (decide (9223372036854775808<=n)) (digL (n % 9223372036854775808)) (Bh (n % 9223372036854775808)):=by
 unfold Bl;rw [if_neg (by simp [h]),if_neg h2];rfl
set_option maxRecDepth 100000 in
set_option maxHeartbeats 1600000 in
theorem realText_any {w:World} {n:Nat} (hn:n<18446744073709551616) (hF:Flo w) :
   Calls Tryz.prog 48 #[.float .f64 n] w fun e w' => ∃t:ByteArray,e=.returned (.string t)/\t.data.toList=Bl n/\Below w.heap.size w w' := by
 have h1:=isNaN_any hn
 cases hnan:nanF n with
 | true=>
   have hL:=Eh hnan;rw [hnan] at h1;clear hnan;replace hF:=Hd hF;replace h1:=Hd h1;replace hL:=Hd hL
   go_enter Tryz.func48,Tryz.ntmps48
   go_wp2_with fail
   refine (h1.out _).mono ?_;rintro e w' ⟨rfl,hww⟩;obtain rfl:=hww.symm;clear hww;go_wp2;go_ret;exact ⟨_,rfl,hL.out.symm,Below.refl _ _⟩
 | false=>
   have h2:=isInf_pos hn hnan;have h3:=isInf_neg hn hnan;rw [hnan] at h1;by_cases hinf:n % 9223372036854775808=9218868437227405312
   · have hL:=realL_inf hnan hinf
     replace hF:=Hd hF;replace h1:=Hd h1;by_cases hp:n=9218868437227405312
     · rw [decide_eq_true hp] at h2
       have hL2:Bl n=[105,110,102]:=by rw [hL,decide_eq_false (by omega)];rfl
       replace hL2:=Hd hL2;replace h2:=Hd h2;clear h3 hp hL hinf hnan
       go_enter Tryz.func48,Tryz.ntmps48
       go_wp2_with fail
       refine (h1.out _).mono ?_;rintro e w' ⟨rfl,hww⟩;obtain rfl:=hww.symm;clear hww;go_wp2_with fail
       refine (h2.out _).mono ?_;rintro e w' ⟨rfl,hww⟩;obtain rfl:=hww.symm;clear hww;go_wp2;go_ret;exact ⟨_,rfl,hL2.out.symm,Below.refl _ _⟩
     · rw [decide_eq_false hp] at h2
       have hp2:n=18442240474082181120:=by omega
       rw [decide_eq_true hp2] at h3;have hL2:Bl n=[45,105,110,102]:=by rw [hL,decide_eq_true (by omega)];rfl
       replace hL2:=Hd hL2;replace h2:=Hd h2;replace h3:=Hd h3;clear hp hp2 hL hinf hnan
       go_enter Tryz.func48,Tryz.ntmps48
       go_wp2_with fail
       refine (h1.out _).mono ?_;rintro e w' ⟨rfl,hww⟩;obtain rfl:=hww.symm;clear hww;go_wp2_with fail
       refine (h2.out _).mono ?_;rintro e w' ⟨rfl,hww⟩;obtain rfl:=hww.symm;clear hww;go_wp2_with fail
       refine (h3.out _).mono ?_;rintro e w' ⟨rfl,hww⟩;obtain rfl:=hww.symm;clear hww;go_wp2;go_ret;exact ⟨_,rfl,hL2.out.symm,Below.refl _ _⟩
   · have hr:n % 9223372036854775808<9218868437227405312:=by
       unfold nanF at hnan;have:=of_decide_eq_false hnan;omega
     have hL:=realL_num hnan hinf;rw [decide_eq_false (by omega)] at h2 h3;obtain ⟨r,hre⟩:∃r,r=n % 9223372036854775808:=⟨_,rfl⟩;obtain ⟨nb,hnb⟩:∃nb:Bool,nb=decide (9223372036854775808<=n):=⟨_,rfl⟩;have hE:=sfmtE_any hn hr hF;have hFF:∀wz,Flo wz->_:=fun wz hz=>sfmtF_any (w:=wz) hn hr hz;rw [<-hre,<-hnb] at hL hE;rw [<-hre] at hr;have hpb:=point_bounds hr;obtain ⟨x,hx⟩:∃x,x=expN r:=⟨_,rfl⟩;have hx9:-401<=x/\x<=400:=by rw [hx];unfold expN;split<;>omega
     rw [<-hx] at hL;have hlen:=digL_len r hr;clear hinf hnan hpb;replace hF:=Hd hF;replace h1:=Hd h1;replace h2:=Hd h2;replace h3:=Hd h3;replace hE:=Hd hE;replace hFF:=Hd hFF;replace hL:=Hd hL;replace hre:=Hd hre;replace hnb:=Hd hnb;replace hx:=Hd hx
     go_enter Tryz.func48,Tryz.ntmps48
     go_wp2_with fail
     refine (h1.out _).mono ?_;rintro e w' ⟨rfl,hww⟩;obtain rfl:=hww.symm;clear hww;go_wp2_with fail
     refine (h2.out _).mono ?_;rintro e w' ⟨rfl,hww⟩;obtain rfl:=hww.symm;clear hww;go_wp2_with fail
     refine (h3.out _).mono ?_;rintro e w' ⟨rfl,hww⟩;obtain rfl:=hww.symm;clear hww;go_wp2_with fail
     refine hE.out.mono ?_;rintro e w1 ⟨t,rfl,ht,hb1⟩;have ht2:t.data.toList=D6 nb (digL r)++101 :: expL x:=by rw [ht,effE_front,hx.out];rfl
     obtain ⟨k,hk⟩:∃k:Nat,k=(D6 nb (digL r)).length:=⟨_,rfl⟩;have hk64:(k:Int)<=100:=by have:=front_len nb (digL r);omega
     have hix:=Tryz.strings_IndexByte t 101 w1;have hix2:Lib.indexByte t.data.toList (101:Int).toNat.toUInt8=(k:Int):=by
       rw [ht2,hk];exact index_past (front_ne (digL_isD r))
     rw [hix2] at hix;have htn:t.size=k+1+(expL x).length:=by
       have:t.size=t.data.toList.length:=by rw [Array.length_toList];rfl
       rw [this,ht2,hk];simp;omega
     have hel:=expL_len x;obtain ⟨t2,ht2e⟩:∃t2,t2=t.extract (k+1) t.size:=⟨_,rfl⟩;have ht2l:t2.data.toList=expL x:=by
       rw [ht2e,F3,ht2,hk];rw [show D6 nb (digL r)++101 :: expL x=(D6 nb (digL r)++[101])++expL x by simp];rw [show (D6 nb (digL r)).length+1=(D6 nb (digL r)++[101]).length by simp,List.drop_left];refine List.take_of_length_le ?_;rw [htn,hk];simp
     have hat:=Tryz.strconv_Atoi t2 x (by
       have:t2.size=t2.data.toList.length:=by rw [Array.length_toList];rfl
       rw [this,ht2l];omega) (by rw [ht2l];exact atoi_expL (by omega) (by omega))
     replace ht:=Hd ht;replace ht2:=Hd ht2;replace hk:=Hd hk;replace hix:=Hd hix;replace hat:=Hd hat;replace ht2l:=Hd ht2l;clear hix2;have hkt:(k:Int)+1<=(t.size:Int):=by omega
     have hkt0:(0:Int)<=(k:Int)+1:=by omega
     replace ht2e:=ht2e.symm;have hF1:Flo w1:=⟨hF.out.pows.below hb1 hF.out.pows.lt,Go.Joins.tab_stays C8 hF.out.tens hb1 (Nat.le_refl _)⟩;replace hF1:=Hd hF1;replace hb1:=Hd hb1;clear htn hel;go_wp2_with fail
     refine hix.out.mono ?_;rintro e w' ⟨rfl,hww⟩;obtain rfl:=hww.symm;clear hww;go_wp2_with fail
     refine (hat.out _).mono ?_;rintro e w2 ⟨rfl,tb,hw2⟩;have hb12:Below w1.heap.size w1 w2:=by rw [hw2];exact Go.Joins.below_bytesWorld _ _ _ _ (Nat.le_refl _)
     have hb02:Below w.heap.size w w2:=hb1.out.trans (hb12.mono hb1.out.size);have hF2:Flo w2:=⟨hF1.out.pows.below hb12 hF1.out.pows.lt,Go.Joins.tab_stays C8 hF1.out.tens hb12 (Nat.le_refl _)⟩;replace hb02:=Hd hb02;replace hF2:=Hd hF2;clear hw2 hb12 hat hix;by_cases hx4:x < -4
     · have hLe:=hL.out
       rw [if_pos (.inl hx4),<-ht.out] at hLe;replace hLe:=Hd hLe;go_wp2_with fail
       go_ret;exact ⟨t,rfl,hLe.out.symm,hb02.out⟩
     · by_cases hx21:21<=x
       · have hLe:=hL.out
         rw [if_pos (.inr hx21),<-ht.out] at hLe;replace hLe:=Hd hLe;go_wp2_with fail
         go_ret;exact ⟨t,rfl,hLe.out.symm,hb02.out⟩
       · have hLe:=hL.out
         rw [if_neg (by omega)] at hLe;replace hLe:=Hd hLe;have hf:=hFF.out w2 hF2.out;rw [<-hre.out,<-hnb.out] at hf;replace hf:=Hd hf;go_wp2_with fail
         refine hf.out.mono ?_;rintro e w3 ⟨t3,rfl,ht3,hb3⟩;have hb03:=hb02.out.trans (hb3.mono hb02.out.size);replace ht3:=Hd ht3;go_wp2_with fail
         go_ret;exact ⟨t3,rfl,ht3.out.trans hLe.out.symm,hb03⟩
end Go.Proofs.YtagkgfniihiinaaGreatDoor
namespace Go.Proofs.YtagkgfniihiinaaGreatDoor
def Br (r:Nat):List UInt8:=if r=9218868437227405312 then [105,110,102] else if expN r < -4\/21<=expN r then effE false (digL r) (Bh r) else effF false (digL r) (Bh r)
theorem effE_sign (neg:Bool) (D:List UInt8) (dp:Int):effE neg D dp=A3 neg++effE false D dp:=by unfold effE;simp [A3]
theorem effF_sign (neg:Bool) (D:List UInt8) (dp:Int):effF neg D dp=A3 neg++effF false D dp:=by unfold effF;simp [A3]
theorem C5 {n:Nat} (hn:nanF n=false):Bl n=A3 (decide (9223372036854775808<=n))++Br (n % 9223372036854775808):=by
 by_cases h:n % 9223372036854775808=9218868437227405312
 · rw [realL_inf hn h];unfold Br;rw [if_pos h]
 · rw [realL_num hn h];unfold Br;rw [if_neg h]
   split
   · exact effE_sign _ _ _
   · exact effF_sign _ _ _
theorem nDig_le:∀k u:Nat,u<10 ^ (k+1)->Lib.nDigits u<=k+1
 | 0,u,h=>by rw [Lib.nDigits_small (by simpa using h)];exact Nat.le_refl _
 | k+1,u,h=>by
   by_cases h1:u<10
   · rw [Lib.nDigits_small h1];omega
   · rw [Lib.nDigits_big h1]
     have:=nDig_le k (u / 10) (by rw [Nat.pow_succ] at h;omega);omega
mutual
def V.ranged:V->Prop
 | .mk _ _ i r _ l=>-9223372036854775808<=i/\i<=9223372036854775807/\r<18446744073709551616/\V.rangedL l
def V.rangedL:List V->Prop
 | []=>True
 | x :: l=>V.ranged x/\V.rangedL l
end
theorem V.ranged_eq (v:V):v.ranged ↔ -9223372036854775808<=v.int/\v.int<=9223372036854775807/\v.real<18446744073709551616/\V.rangedL v.list:=by cases v;simp only [V.ranged,V.int,V.real,V.list]
theorem V.rangedL_mem {l:List V} (h:V.rangedL l):∀x∈l,x.ranged:=by
 induction l with
 | nil=>intro x hx;cases hx
 | cons y l ih=>
   intro x hx;rcases List.mem_cons.1 hx with rfl | hx
   · exact h.1
   · exact ih h.2 x hx
theorem rangedL_of {l:List V} (h:∀x∈l,x.ranged):V.rangedL l:=by
 induction l with
 | nil=>trivial
 | cons y l ih=>exact ⟨h y (by simp),ih fun x hx=>h x (by simp [hx])⟩
def tK:Nat:=400
theorem tK_is:tK=400:=rfl
def tT (q:Int):Nat:=10 ^ (q+tK).toNat * 2 ^ hp
theorem tT_add {q:Int} (h:-400<=q) (a:Nat):tT (q+a)=10 ^ a * tT q:=by
 have hk:=tK_is;unfold tT;rw [show (q+a+tK).toNat=a+(q+tK).toNat by omega,Nat.pow_add,Nat.mul_assoc]
theorem Ep {p q:Int} (p0:-400<=p) (q0:-400<=q):(∃a:Nat,tT p=10 ^ a * tT q/\p - q=(a:Int))\/∃a:Nat,1<=a/\tT q=10 ^ a * tT p/\q - p=(a:Int):=by
 rcases Int.lt_or_le p q with h | h
 · obtain ⟨a,rfl⟩:∃a:Nat,q=p+a:=⟨(q - p).toNat,by omega⟩
   exact .inr ⟨a,by omega,tT_add p0 a,by omega⟩
 · obtain ⟨a,rfl⟩:∃a:Nat,p=q+a:=⟨(p - q).toNat,by omega⟩
   exact .inl ⟨a,tT_add q0 a,by omega⟩
theorem Gh (s:ByteArray):s.size=s.data.toList.length:=by rw [Array.length_toList];rfl
theorem exp_head {X:List UInt8} {x:Int} (h:ExpAt X x):∀c l,X=c :: l->c=101:=by
 intro c l e;cases h with
 | none=>cases e
 | bare _ _=>cases e;rfl
 | plus _ _=>cases e;rfl
 | minus _ _=>cases e;rfl
theorem exp_okC {X:List UInt8} {x:Int} (h:ExpAt X x):∀b∈X,okC b:=by
 intro b hb;cases h with
 | none=>cases hb
 | bare _ hd=>
   rcases List.mem_cons.1 hb with rfl | hb
   · exact .inr (.inr (.inl rfl))
   · exact .inl (hd b hb)
 | plus _ hd=>
   rcases List.mem_cons.1 hb with rfl | hb
   · exact .inr (.inr (.inl rfl))
   · rcases List.mem_cons.1 hb with rfl | hb
     · exact .inr (.inr (.inr (.inl rfl)))
     · exact .inl (hd b hb)
 | minus _ hd=>
   rcases List.mem_cons.1 hb with rfl | hb
   · exact .inr (.inr (.inl rfl))
   · rcases List.mem_cons.1 hb with rfl | hb
     · exact .inr (.inr (.inr (.inr rfl)))
     · exact .inl (hd b hb)
def B4 (fr:Bool) (F:List UInt8):List UInt8:=if fr then 46 :: F else []
theorem scan_exp {X:List UInt8} {x:Int} (h:ExpAt X x) (d:Bool) (L:List UInt8) (m:Nat):B3 X d L m=(d,L,m,X):=by
 cases hx:X with
 | nil=>rfl
 | cons c l=>
   have:=exp_head h c l hx;subst this;rw [B3,if_neg (by decide),if_neg (by decide)]
theorem scan_form {A F X:List UInt8} {fr:Bool} {x:Int} (hAd:∀c∈A,isD c=true) (hF:fr=false->F=[]) (hFd:∀c∈F,isD c=true) (hX:ExpAt X x) :
   B3 (A++(B4 fr F++X)) false [] 0=(fr,A++F,if fr then F.length else A.length,X):=by
 rw [Ee hAd,List.nil_append,Nat.zero_add]
 cases fr
 · rw [hF rfl]
   show B3 X false A A.length=_;rw [scan_exp hX,List.append_nil];rfl
 · show B3 (46 :: (F++X)) false A A.length=_
   rw [B3,if_pos (by decide),if_neg (by decide),Ee hFd,scan_exp hX,Nat.zero_add];rfl
theorem txt_form {s:ByteArray} {A F X:List UInt8} {fr:Bool} {x:Int} {neg:Bool} (hs:s.data.toList=A3 neg++(A++(B4 fr F++X))) (hz:s.size<=1000) (hA:A≠[]) (hAd:∀c∈A,isD c=true) (hF:fr=false->F=[])
   (hFd:∀c∈F,isD c=true) (hX:ExpAt X x):FTxt s neg fr (A++F) (if fr then F.length else A.length) x/\∃c l,s.data.toList=(if neg then [45] else [])++c :: l/\isD c=true:=by
 cases hAe:A with
 | nil=>exact absurd hAe hA
 | cons c T=>
   have hc:=hAd c (by rw [hAe];exact List.mem_cons_self ..);have e:A++(B4 fr F++X)=c :: (T++(B4 fr F++X)):=by rw [hAe];rfl
   rw [<-hAe];refine ⟨⟨⟨c,T++(B4 fr F++X),X,?_,hc,?_,hX,?_⟩,hz,fun e=>hA (List.append_eq_nil_iff.1 e).1⟩,c,T++(B4 fr F++X),?_,hc⟩
   · rw [hs,e];rfl
   · rw [<-e];exact scan_form hAd hF hFd hX
   · intro b hb
     rw [<-e] at hb;rcases List.mem_append.1 hb with hb | hb
     · exact .inl (hAd b hb)
     · rcases List.mem_append.1 hb with hb | hb
       · unfold B4 at hb
         cases fr
         · cases hb
         · rcases List.mem_cons.1 hb with rfl | hb
           · exact .inr (.inl rfl)
           · exact .inl (hFd b hb)
       · exact exp_okC hX b hb
   · rw [hs,e];rfl
theorem exp_uniq {X:List UInt8} {x y:Int} (h:ExpAt X x) (h' : ExpAt X y):x=y:=by
 have nd:∀{E:List UInt8} {c:UInt8} {l:List UInt8},(∀b∈E,isD b=true)->E=c :: l->isD c=false->False:=fun hd e hc=>by
   rw [hd _ (by rw [e];exact List.mem_cons_self ..)] at hc;cases hc
 cases h with
 | none=>cases h'; rfl
 | @bare E hE hd=>
   generalize hX:(101 :: E:List UInt8)=Y at h';cases h' with
   | none=>cases hX
   | bare=>cases hX;rfl
   | plus=>cases hX;exact (nd hd rfl (by decide)).elim
   | minus=>cases hX;exact (nd hd rfl (by decide)).elim
 | @plus E hE hd=>
   generalize hX:(101 :: 43 :: E:List UInt8)=Y at h';cases h' with
   | none=>cases hX
   | bare _ hd2=>cases hX;exact (nd hd2 rfl (by decide)).elim
   | plus=>cases hX;rfl
   | minus=>cases hX
 | @minus E hE hd=>
   generalize hX:(101 :: 45 :: E:List UInt8)=Y at h';cases h' with
   | none=>cases hX
   | bare _ hd2=>cases hX;exact (nd hd2 rfl (by decide)).elim
   | plus=>cases hX
   | minus=>cases hX;rfl
theorem txt_uniq {s:ByteArray} {neg neg' d d' : Bool} {L L' : List UInt8} {m m' : Nat} {x x' : Int} (h:FTxt s neg d L m x) (h' : FTxt s neg' d' L' m' x'):neg=neg' /\ d=d' /\ L=L' /\ m=m' /\ x=x' := by
 obtain ⟨⟨c,b,r,h1,h2,h3,h4,_⟩,_,_⟩:=h;obtain ⟨⟨c', b', r', k1,k2,k3,k4,_⟩,_,_⟩:=h';have e:=h1.symm.trans k1;have n45:∀{c:UInt8},isD c=true->c≠45:=fun hc e=>by subst e;exact absurd hc (by decide)
 have key:neg=neg' /\ c :: b=c' :: b' := by
   cases neg<;>cases neg'
   · exact ⟨rfl,e⟩
   · exact absurd (List.cons.inj e).1 (n45 h2)
   · exact absurd (List.cons.inj e).1.symm (n45 k2)
   · exact ⟨rfl,(List.cons.inj e).2⟩
 rw [key.2,k3] at h3;simp only [Prod.mk.injEq] at h3;obtain ⟨e1,e2,e3,e4⟩:=h3;rw [<-e4] at h4;exact ⟨key.1,e1.symm,e2.symm,e3.symm,exp_uniq h4 k4⟩
theorem decA_tens {d r:Nat}:∀(j:Nat) (p:Int),InI r (decA (d * 10 ^ j) p) (An p) ↔ InI r (decA d (p+j)) (An (p+j))
 | 0,p=>by simp
 | j+1,p=>by
   rw [Nat.pow_succ,<-Nat.mul_assoc,decA_ten,decA_tens j (1+p),show 1+p+(j:Int)=p+((j+1:Nat):Int) by omega]
theorem dig_spec {r:Nat} (h0:0<r) (hr:r<9218868437227405312):∃c T,digL r=c :: T/\c≠48/\(digL r).length<=18/\InI r (decA (valD (digL r)) (Bh r - (digL r).length)) (An (Bh r - (digL r).length))/\0<valD (digL r):=by
 obtain ⟨a,b,_,_⟩:=Dj h0 hr;have hok:=short_ok h0 hr;unfold digL Bh;rw [if_neg (by omega),if_neg (by omega)];obtain ⟨d,hd⟩:∃d,(A2 r).1=d:=⟨_,rfl⟩;obtain ⟨q,hq⟩:∃q,(A2 r).2=q:=⟨_,rfl⟩;rw [hd] at a b hok ⊢;rw [hq] at hok ⊢;obtain ⟨n,hn⟩:=Dv (Lib.decDigits d);have hlen:=congrArg List.length hn;rw [List.length_append,List.length_replicate,Lib.decDigits_length] at hlen;have hval:d=valD (As (Lib.decDigits d)) * 10 ^ n:=by
   have h1:=stripZ_val (Lib.decDigits d);rw [Ec,Lib.decDigits_length,hlen,Nat.add_sub_cancel_left] at h1;exact h1
 have h18:Lib.nDigits d<=18:=nDig_le 17 d b;obtain ⟨c,l,hc,hc48⟩:=dec_head (u:=d) a;obtain ⟨D,hD⟩:∃D,As (Lib.decDigits d)=D:=⟨_,rfl⟩;rw [hD] at hn hlen hval ⊢;have hv0:0<valD D:=by
   rcases Nat.eq_zero_or_pos (valD D) with h | h
   · rw [h,Nat.zero_mul] at hval;omega
   · exact h
 cases D with
 | nil=>exact absurd hv0 (by decide)
 | cons c2 T=>
   refine ⟨c2,T,rfl,?_,by omega,?_,hv0⟩
   · rw [hn,List.cons_append] at hc
     rw [(List.cons.inj hc).1];exact hc48
   · rw [hval] at hok
     have:=(decA_tens n q).1 hok;have e:((Lib.nDigits d:Nat):Int)+q - ((c2 :: T).length:Nat)=q+(n:Int):=by omega
     rw [e];exact this
def topP (n:Nat):Nat:=1 * 10 ^ n * 2 ^ Go.Proofs.YtagkgfniihiinaaGreatDoor.hp
theorem mid_topP:mid 9218868437227405311<topP 311:=by decide +kernel
def lowP:Nat:=18446744073709551616 * 10 ^ 0 * 2 ^ Go.Proofs.YtagkgfniihiinaaGreatDoor.hp
def tenP (n:Nat):Nat:=10 ^ n
theorem low_topP:lowP<tenP 346:=by decide +kernel
theorem dec_low {d D:Nat} (hd:d<=D) (c:Nat) {n m:Nat} (h:n<=m):d * 10 ^ n * 2 ^ c<=D * 10 ^ m * 2 ^ c:=
 Nat.mul_le_mul_right _ (Nat.mul_le_mul hd (Nat.pow_le_pow_right (by decide) h))
theorem p_bounds {r d:Nat} {p:Int} (h0:0<r) (hr:r<9218868437227405312) (hd:0<d) (hd2:d<=18446744073709551616) (h:InI r (decA d p) (An p)):-345<=p/\p<=310:=by
 constructor
 · rcases Int.lt_or_le p (-345) with h1 | h1
   · exfalso
     obtain ⟨n,hn⟩:∃n:Nat,n=346:=⟨_,rfl⟩;have hlo:lowP<tenP n:=by rw [hn];exact low_topP
     have hb:tenP n<=An p:=Nat.pow_le_pow_right (by decide) (by omega);clear hn;have h2:mid (r - 1) * An p<=decA d p:=by
       rcases h.low with h | h | h
       · omega
       · exact Nat.le_of_lt h
       · exact Nat.le_of_eq h.1
     have h3:1<=mid (r - 1):=by
       have:=mid_le (r:=0) (s:=r - 1) (Nat.zero_le _);exact Nat.le_trans (by decide +kernel) this
     have h4:An p<=mid (r - 1) * An p:=Nat.le_mul_of_pos_left _ h3;have h5:decA d p<=lowP:=dec_low hd2 Go.Proofs.YtagkgfniihiinaaGreatDoor.hp (by omega);exact absurd (Nat.le_trans hb (Nat.le_trans h4 (Nat.le_trans h2 h5))) (Nat.not_le.2 hlo)
   · exact h1
 · rcases Int.lt_or_le 310 p with h1 | h1
   · exfalso
     have hb:An p=1:=by unfold An;rw [show (-p).toNat=0 by omega,Nat.pow_zero]
     have h2:decA d p<=mid r * An p:=by
       rcases h.high with h | h
       · exact Nat.le_of_lt h
       · exact Nat.le_of_eq h.1
     rw [hb,Nat.mul_one] at h2;have h3:mid r<=mid 9218868437227405311:=mid_le (by omega);obtain ⟨n,hn⟩:∃n:Nat,n=311:=⟨_,rfl⟩;have h6:mid 9218868437227405311<topP n:=by rw [hn];exact mid_topP
     have h311:n<=p.toNat:=by omega
     have h5:topP n<=decA d p:=dec_low hd Go.Proofs.YtagkgfniihiinaaGreatDoor.hp h311;clear hn;exact absurd (Nat.le_trans h5 (Nat.le_trans h2 h3)) (Nat.not_le.2 h6)
   · exact h1
def eL (n:Nat):List UInt8:=if n<10 then [48,dg8 n] else if n<100 then [dg8 (n / 10),dg8 (n % 10)] else [dg8 (n / 100),dg8 (n / 10 % 10),dg8 (n % 10)]
def eOk (n:Nat):Bool:=!(eL n).isEmpty && (eL n).all isD && (capE (eL n) == n)
theorem exp_tab:allN 1000 eOk=true:=by decide +kernel
theorem expL_is (x:Int) (h:x.natAbs<1000):ExpAt (101 :: expL x) x:=by
 have key:=Fo exp_tab x.natAbs h;unfold eOk at key;rw [show expL x=(if x<0 then 45 else 43) :: eL x.natAbs from rfl];generalize eL x.natAbs=E at key ⊢;rw [Bool.and_eq_true,Bool.and_eq_true,beq_iff_eq,List.all_eq_true] at key;obtain ⟨⟨k0,k2⟩,k3⟩:=key;have k1:E≠[]:=fun e=>by rw [e] at k0;cases k0
 split
 · have:=ExpAt.minus k1 k2
   rw [k3] at this;rw [show x=-((x.natAbs:Nat):Int) by omega];rw [show (-((x.natAbs:Nat):Int))=-((x.natAbs:Nat):Int) from rfl] at this;exact this
 · have:=ExpAt.plus k1 k2
   rw [k3] at this;rw [show x=((x.natAbs:Nat):Int) by omega];exact this
theorem rep_dig (k:Nat):∀c∈List.replicate k (48:UInt8),isD c=true:=fun c hc=>by
 rw [List.eq_of_mem_replicate hc];decide
theorem valD_rep (k:Nat):valD (List.replicate k 48)=0:=valD_zeros fun c hc=>List.eq_of_mem_replicate hc
theorem mant_form {a k:Nat} {c:UInt8} {T:List UInt8} (hc:c≠48) (hl:(c :: T).length<=18) :
   ndF (List.replicate a 48++((c :: T)++List.replicate k 48))=(c :: T).length+k /\
   Ar (List.replicate a 48++((c :: T)++List.replicate k 48))=valD (c :: T) * 10 ^ (min k (19 - (c :: T).length))/\A6 (List.replicate a 48++((c :: T)++List.replicate k 48))=false:=by
 have hs:Ax (List.replicate a 48++((c :: T)++List.replicate k 48))=(c :: T)++List.replicate k 48:=by
   induction a with
   | zero=>
     unfold Ax;rw [List.replicate_zero,List.nil_append,List.cons_append,List.dropWhile_cons_of_neg (by simpa using hc)]
   | succ a ih=>
     unfold Ax at ih ⊢;rw [List.replicate_succ,List.cons_append,List.dropWhile_cons_of_pos (by rfl)];exact ih
 unfold ndF Ar A6
 rw [hs]
 refine ⟨by rw [List.length_append,List.length_replicate],?_,?_⟩
 · rw [List.take_append,List.take_of_length_le (by omega),List.take_replicate,Da,valD_rep,Nat.add_zero,List.length_replicate,Nat.min_comm]
 · rw [List.drop_append,List.drop_of_length_le (by omega),List.nil_append,List.drop_replicate,List.any_eq_false]
   intro x hx;rw [List.eq_of_mem_replicate hx];decide
theorem read_form {r a k m:Nat} {c:UInt8} {T L:List UInt8} {fr:Bool} {x p:Int} (h0:0<r) (hr:r<9218868437227405312) (hc:c≠48) (hdig:∀b∈c :: T,isD b=true) (hl:(c :: T).length<=18)
   (hin:InI r (decA (valD (c :: T)) p) (An p)) (hv:0<valD (c :: T)) (hL:L=List.replicate a 48++((c :: T)++List.replicate k 48))
   (hx:(if fr then (((c :: T).length+k:Nat):Int) - m else (((c :: T).length+k:Nat):Int))+x=(c :: T).length+p) :
   0<Ar L/\Ar L<18446744073709551616/\A6 L=false/\-345<=expF fr L m x/\expF fr L m x<=310/\InI r (decA (Ar L) (expF fr L m x)) (An (expF fr L m x)):=by
 obtain ⟨m1,m2,m3⟩:=mant_form (a:=a) (k:=k) hc hl
 have hLd:∀b∈L,isD b=true:=fun b hb=>by
   rw [hL] at hb;rcases List.mem_append.1 hb with hb | hb
   · exact rep_dig _ b hb
   · rcases List.mem_append.1 hb with hb | hb
     · exact hdig b hb
     · exact rep_dig _ b hb
 have h19:=mantF_lt19 hLd
 rw [<-hL] at m1 m2 m3
 have hpos:0<Ar L:=by rw [m2];exact Nat.mul_pos hv (Nat.pow_pos (by decide))
 have he:expF fr L m x+((min k (19 - (c :: T).length):Nat):Int)=p:=by
   unfold expF;rw [if_neg (by omega),m1];omega
 have hI:InI r (decA (Ar L) (expF fr L m x)) (An (expF fr L m x)):=by
   rw [m2,decA_tens,he];exact hin
 obtain ⟨b1,b2⟩:=p_bounds h0 hr hpos (by omega) hI
 exact ⟨hpos,by omega,m3,b1,b2,hI⟩
structure NumT (s:ByteArray) (neg:Bool) (r:Nat) (d:Bool) (L:List UInt8) (m:Nat) (x:Int):Prop where
 txt:FTxt s neg d L m x
 pos:0<Ar L
 lt:Ar L<18446744073709551616
 whole:A6 L=false
 low:-345<=expF d L m x
 high:expF d L m x<=310
 near:InI r (decA (Ar L) (expF d L m x)) (An (expF d L m x))
 head:∃c l,s.data.toList=(if neg then [45] else [])++c :: l/\isD c=true
 parts:∃A F X fr y,s.data.toList=A3 neg++(A++(B4 fr F++X))/\A≠[]/\(∀c∈A,isD c=true)/\(fr=true->F≠[])/\(∀c∈F,isD c=true)/\ExpAt X y
theorem Fk {s:ByteArray} {A F X:List UInt8} {fr neg:Bool} {x p:Int} {r a k:Nat} {c:UInt8} {T:List UInt8} (h0:0<r) (hr:r<9218868437227405312) (hc:c≠48) (hdig:∀b∈c :: T,isD b=true) (hl:(c :: T).length<=18)
   (hin:InI r (decA (valD (c :: T)) p) (An p)) (hv:0<valD (c :: T)) (hs:s.data.toList=A3 neg++(A++(B4 fr F++X))) (hz:s.size<=1000) (hA:A≠[]) (hAd:∀c∈A,isD c=true) (hF:fr=true->F≠[]) (hF2:fr=false->F=[])
   (hFd:∀c∈F,isD c=true) (hX:ExpAt X x) (hL:A++F=List.replicate a 48++((c :: T)++List.replicate k 48))
   (hx:(if fr then (((c :: T).length+k:Nat):Int) - ((if fr then F.length else A.length:Nat):Int) else (((c :: T).length+k:Nat):Int))+x=(c :: T).length+p) :
   NumT s neg r fr (A++F) (if fr then F.length else A.length) x:=by
 obtain ⟨h1,h2⟩:=txt_form hs hz hA hAd hF2 hFd hX
 obtain ⟨m1,m2,m3,m4,m5,m6⟩:=read_form (fr:=fr) (m:=if fr then F.length else A.length) (x:=x) h0 hr hc hdig hl hin hv hL hx
 exact ⟨h1,m1,m2,m3,m4,m5,m6,h2,A,F,X,fr,x,hs,hA,hAd,hF,hFd,hX⟩
theorem Cn {s:ByteArray} {neg:Bool} {r:Nat} (h0:0<r) (hr:r<9218868437227405312) (hs:s.data.toList=A3 neg++Br r):s.size<=25/\∃d L m x,NumT s neg r d L m x:=by
 obtain ⟨c,T,hD,hc,hl,hin,hv⟩:=dig_spec h0 hr;have hdig:=digL_isD r;obtain ⟨b1,b2⟩:=point_bounds hr;have hsg:(A3 neg).length<=1:=by unfold A3;split<;>simp
 have hsz:s.size=(A3 neg).length+(Br r).length:=by rw [Gh,hs,List.length_append]
 unfold Br at hs hsz;have hne:digL r≠[]:=by rw [hD];simp
 have hex:expN r=Bh r - 1:=by unfold expN;rw [if_neg hne]
 rw [if_neg (by omega),hex] at hs hsz;obtain ⟨dp,hdp⟩:∃dp,Bh r=dp:=⟨_,rfl⟩;rw [hdp] at hs hsz hin b1 b2;rw [hD] at hs hsz hin hdig hl hv;clear hD hne hex hdp;have hll:(c :: T).length=T.length+1:=rfl;by_cases he:dp - 1 < -4\/21<=dp - 1
 · rw [if_pos he] at hs hsz
   have hE:effE false (c :: T) dp=[c]++(B4 (decide (1<(c :: T).length)) T++(101 :: expL (dp - 1))):=by
     unfold effE B4;rw [if_neg (List.cons_ne_nil c T)];by_cases h1:1<(c :: T).length
     · rw [if_pos h1,if_pos (decide_eq_true h1)]
       simp [A3]
     · rw [if_neg h1,if_neg (by simpa using h1)]
       simp [A3]
   rw [hE] at hs hsz;have hel:=expL_len (dp - 1);have hz:s.size<=25:=by
     rw [hsz];unfold B4;split<;>simp only [List.length_append,List.length_cons,List.length_nil]<;>omega
   refine ⟨hz,_,_,_,_,Fk (fr:=decide (1<(c :: T).length)) (a:=0) (k:=0) (A:=[c]) (F:=T) (x:=dp - 1) h0 hr hc hdig hl hin hv hs (by omega) (by simp) ?_ ?_ ?_ ?_ (expL_is _ (by omega)) (by simp) ?_⟩
   · intro b hb
     rw [List.mem_singleton] at hb;subst hb;exact hdig _ (List.mem_cons_self ..)
   · intro h1 h2
     have:=of_decide_eq_true h1;rw [h2] at this;simp at this
   · intro h1
     have:=of_decide_eq_false h1;cases T with
     | nil=>rfl
     | cons a l=>simp at this
   · exact fun b hb=>hdig b (List.mem_cons_of_mem _ hb)
   · by_cases h1:1<(c :: T).length
     · rw [decide_eq_true h1,if_pos rfl,if_pos rfl];omega
     · rw [decide_eq_false h1,if_neg (by decide)];omega
 · rw [if_neg he] at hs hsz
   rcases Int.lt_or_le 0 dp with hp | hp
   · rcases Int.lt_or_le dp (c :: T).length with hq | hq
     · have hF:effF false (c :: T) dp=(c :: T).take dp.toNat++(B4 true ((c :: T).drop dp.toNat)++[]):=by
         unfold effF B4;rw [if_pos hp,if_pos hq,if_pos rfl,show dp.toNat - (c :: T).length=0 by omega,show (-dp).toNat=0 by omega];simp [A3]
       rw [hF] at hs hsz;have hz:s.size<=25:=by
         rw [hsz];unfold B4;rw [if_pos rfl,List.length_append,List.length_append,List.length_cons,List.length_take,List.length_drop,List.length_nil];omega
       refine ⟨hz,_,_,_,_,Fk (fr:=true) (a:=0) (k:=0) (x:=0) h0 hr hc hdig hl hin hv hs (by omega) ?_ (fun b hb=>hdig b (List.mem_of_mem_take hb)) ?_ (fun h=>by cases h) (fun b hb=>hdig b (List.mem_of_mem_drop hb)) .none ?_ ?_⟩
       · intro h
         have:=congrArg List.length h;rw [List.length_take,List.length_nil] at this;omega
       · intro _ h
         have:=congrArg List.length h;rw [List.length_drop,List.length_nil] at this;omega
       · rw [List.take_append_drop];simp
       · rw [if_pos rfl,if_pos rfl,List.length_drop];omega
     · have hF:effF false (c :: T) dp=((c :: T)++List.replicate (dp.toNat - (c :: T).length) 48)++(B4 false []++[]):=by
         unfold effF B4;rw [if_pos hp,if_neg (by omega),if_neg (by decide),List.take_of_length_le (by omega)];simp [A3]
       rw [hF] at hs hsz;have hz:s.size<=25:=by
         rw [hsz];unfold B4;rw [if_neg (by decide),List.length_append,List.length_append,List.length_append,List.length_replicate,List.length_nil];omega
       refine ⟨hz,_,_,_,_,Fk (fr:=false) (a:=0) (k:=dp.toNat - (c :: T).length) (x:=0) h0 hr hc hdig hl hin hv hs (by omega) (by simp) ?_ (fun h=>by cases h) (fun _=>rfl) (fun b hb=>by cases hb) .none ?_ ?_⟩
       · intro b hb
         rcases List.mem_append.1 hb with hb | hb
         · exact hdig b hb
         · exact rep_dig _ b hb
       · simp
       · rw [if_neg (by decide)];omega
   · have hF:effF false (c :: T) dp=[48]++(B4 true (List.replicate (-dp).toNat 48++(c :: T))++[]):=by
       unfold effF B4;rw [if_neg (by omega),if_pos (by omega),if_pos rfl,show dp.toNat=0 by omega];simp [A3]
     rw [hF] at hs hsz;have hz:s.size<=25:=by
       rw [hsz];unfold B4;rw [if_pos rfl];simp only [List.length_append,List.length_cons,List.length_replicate,List.length_nil];simp only [List.length_cons] at hll hl;omega
     refine ⟨hz,_,_,_,_,Fk (fr:=true) (a:=(-dp).toNat+1) (k:=0) (x:=0) h0 hr hc hdig hl hin hv hs (by omega) (by simp) ?_ (fun _=>by simp) (fun h=>by cases h) ?_ .none ?_ ?_⟩
     · intro b hb
       rw [List.mem_singleton] at hb;subst hb;decide
     · intro b hb
       rcases List.mem_append.1 hb with hb | hb
       · exact rep_dig _ b hb
       · exact hdig b hb
     · rw [List.replicate_succ];simp
     · rw [if_pos rfl,if_pos rfl,List.length_append,List.length_replicate];omega
theorem Dr:Br 0=[48]:=by decide +kernel
theorem txt_eq {s:ByteArray} {l:List UInt8} (h:s.data.toList=l):s=⟨l.toArray⟩:=ByteArray.ext (Array.toList_inj.1 h)
theorem word_split (n:Nat) (h:n<18446744073709551616):n=(if decide (9223372036854775808<=n)=true then 9223372036854775808 else 0)+n % 9223372036854775808:=by
 by_cases h1:9223372036854775808<=n
 · rw [decide_eq_true h1,if_pos rfl];omega
 · rw [decide_eq_false h1,if_neg (by decide)];omega
theorem Ff {r:Nat} (h:r<=9218868437227405312):∃c l,Br r=c :: l/\(r=9218868437227405312->c=105)/\(r≠9218868437227405312->isD c=true):=by
 by_cases h1:r=9218868437227405312
 · exact ⟨105,[110,102],by unfold Br;rw [if_pos h1],fun _=>rfl,fun h=>absurd h1 h⟩
 · rcases Nat.eq_zero_or_pos r with h0 | h0
   · subst h0
     exact ⟨48,[],Dr,fun h=>absurd h h1,fun _=>by decide⟩
   · obtain ⟨_,d,L,m,x,hR⟩:=Cn (s:=⟨(Br r).toArray⟩) (neg:=false) h0 (by omega) rfl
     obtain ⟨c,l,h3,h4⟩:=hR.head;exact ⟨c,l,h3,fun h=>absurd h h1,fun _=>h4⟩
theorem bare_inj {r q:Nat} (hr:r<=9218868437227405312) (hq:q<=9218868437227405312) (h:Br r=Br q):r=q:=by
 have hz:∀r,0<r->r<9218868437227405312->Br r=Br 0->False:=fun r h0 h1 h=>by
   obtain ⟨_,d,L,m,x,hR⟩:=Cn (s:=⟨(Br r).toArray⟩) (neg:=false) h0 h1 rfl;have ht:=hR.txt
   have hf:=(txt_form (s:=⟨(Br r).toArray⟩) (A:=[48]) (F:=[]) (X:=[]) (fr:=false) (x:=0) (neg:=false) (by show Br r=[48];rw [h,Dr]) (by rw [h,Dr];decide) (by simp)
     (fun c hc=>by rw [List.mem_singleton.1 hc];decide) (fun _=>rfl) (fun c hc=>by cases hc) .none).1
   have hu:=(txt_uniq ht hf).2.2.1;have hp:=hR.pos;rw [hu] at hp;exact absurd hp (by decide +kernel)
 obtain ⟨c,l,e1,i1,d1⟩:=Ff hr;obtain ⟨c', l', e2,i2,d2⟩:=Ff hq;have hcc:c=c' := by rw [e1,e2] at h;exact (List.cons.inj h).1
 by_cases h1:r=9218868437227405312
 · by_cases h2:q=9218868437227405312
   · rw [h1,h2]
   · have:=d2 h2
     rw [<-hcc,i1 h1] at this;exact absurd this (by decide)
 · by_cases h2:q=9218868437227405312
   · have:=d1 h1
     rw [hcc,i2 h2] at this;exact absurd this (by decide)
   · rcases Nat.eq_zero_or_pos r with h3 | h3
     · rcases Nat.eq_zero_or_pos q with h4 | h4
       · rw [h3,h4]
       · rw [h3] at h;exact (hz q h4 (by omega) h.symm).elim
     · rcases Nat.eq_zero_or_pos q with h4 | h4
       · rw [h4] at h;exact (hz r h3 (by omega) h).elim
       · obtain ⟨_,d,L,m,x,hR⟩:=Cn (s:=⟨(Br r).toArray⟩) (neg:=false) h3 (by omega) rfl
         obtain ⟨_,d', L', m', x', hQ⟩:=Cn (s:=⟨(Br r).toArray⟩) (neg:=false) h4 (by omega) h;obtain ⟨_,rfl,rfl,rfl,rfl⟩:=txt_uniq hR.txt hQ.txt;exact hR.near.uniq (Nat.pow_pos (by decide)) hQ.near
theorem Dd {n:Nat} (h:nanF n=false):n % 9223372036854775808<=9218868437227405312:=by
 unfold nanF at h;have:=of_decide_eq_false h;omega
theorem text_inj {a b:Nat} (ha:a<18446744073709551616) (hb:b<18446744073709551616) (h:Bl a=Bl b):D2 a=D2 b:=by
 have key:∀{a b:Nat},nanF a=true->nanF b=false->Bl a=Bl b->False:=fun {a b} h1 h2 h=>by
   rw [Eh h1,C5 h2] at h;obtain ⟨c,l,e,i,d⟩:=Ff (Dd h2);rw [e] at h;by_cases hs:9223372036854775808<=b
   · rw [decide_eq_true hs] at h
     exact absurd (List.cons.inj h).1 (by decide)
   · rw [decide_eq_false hs] at h
     have hc:(110:UInt8)=c:=(List.cons.inj h).1;by_cases hi:b % 9223372036854775808=9218868437227405312
     · rw [i hi] at hc;exact absurd hc (by decide)
     · have:=d hi
       rw [<-hc] at this;exact absurd this (by decide)
 cases na:nanF a with
 | true=>
   cases nb:nanF b with
   | true=>rw [(canon_nan a).2 na,(canon_nan b).2 nb]
   | false=>exact (key na nb h).elim
 | false=>
   cases nb:nanF b with
   | true=>exact (key nb na h.symm).elim
   | false=>
     rw [C5 na,C5 nb] at h;obtain ⟨c,l,e1,i1,d1⟩:=Ff (Dd na);obtain ⟨c', l', e2,i2,d2⟩:=Ff (Dd nb);have n45:c≠45:=fun e=>by
       by_cases hi:a % 9223372036854775808=9218868437227405312
       · rw [i1 hi] at e;exact absurd e (by decide)
       · have:=d1 hi
         rw [e] at this;exact absurd this (by decide)
     have n45' : c' ≠ 45:=fun e=>by
       by_cases hi:b % 9223372036854775808=9218868437227405312
       · rw [i2 hi] at e;exact absurd e (by decide)
       · have:=d2 hi
         rw [e] at this;exact absurd this (by decide)
     have hsp:=word_split a ha;have hsq:=word_split b hb;have ca:D2 a=a:=by unfold D2;rw [na];rfl
     have cb:D2 b=b:=by unfold D2;rw [nb];rfl
     rw [ca,cb,hsp,hsq];have hr:=Dd na;have hq:=Dd nb;clear hsp hsq ca cb na nb;generalize a % 9223372036854775808=r at *;generalize b % 9223372036854775808=q at *;generalize decide (9223372036854775808<=a)=sa at *;generalize decide (9223372036854775808<=b)=sb at *;cases sa<;>cases sb
     · rw [bare_inj hr hq h]
     · rw [e1] at h;exact absurd (List.cons.inj h).1 n45
     · rw [e2] at h;exact absurd (List.cons.inj h).1.symm n45'
     · rw [bare_inj hr hq (List.cons.inj h).2]
theorem text_len {n:Nat} (h:n<18446744073709551616):(Bl n).length<=25:=by
 cases hnan:nanF n with
 | true=>rw [Eh hnan];decide
 | false=>
   rw [C5 hnan];have hb:=Dd hnan;have hl:(A3 (decide (9223372036854775808<=n))).length<=1:=by unfold A3;split<;>simp
   rcases Nat.eq_or_lt_of_le hb with h1 | h1
   · rw [h1,List.length_append,show (Br 9218868437227405312).length=3 from by unfold Br;rw [if_pos rfl];rfl];omega
   · rcases Nat.eq_zero_or_pos (n % 9223372036854775808) with h0 | h0
     · rw [h0,Dr,List.length_append]
       simp;omega
     · obtain ⟨hz,_⟩:=Cn (s:=⟨(A3 (decide (9223372036854775808<=n))++Br (n % 9223372036854775808)).toArray⟩) h0 h1 rfl
       exact hz
end Go.Proofs.YtagkgfniihiinaaGreatDoor
