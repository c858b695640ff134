/- The reader at the bytes of a value: that value; at each beginning of them: nothing yet (plain). -/
import Derived.Test.YtagkgfniihiinaaGreatDoorJ84
import Derived.Test.YtagkgfniihiinaaGreatDoorJ64
import Derived.Lib.IndexLaws
import Derived.Test.YtagkgfniihiinaaGreatDoorJ78
import Derived.Test.YtagkgfniihiinaaGreatDoorJ32
import Derived.Test.YtagkgfniihiinaaGreatDoorJ85
import Derived.Test.YtagkgfniihiinaaGreatDoorJ82
import Derived.Test.YtagkgfniihiinaaGreatDoorJ55
import Derived.ProofKit
import Derived.OpenShut
import Derived.ShutString
import Derived.ChangeOld
import Derived.Deep.Slices
import Derived.Deep.Fields
import Derived.ChangeSame
import Derived.Test.YtagkgfniihiinaaGreatDoorJ90
import Derived.Stop.LaidErr
import Derived.ChangeSlices
import Derived.Test.YtagkgfniihiinaaGreatDoorNums
import Derived.LaidMore
import Derived.LaidSub
import Derived.LaidLaws
import Derived.Lib.LaidTab
import Derived.Lay
import Derived.Test.YtagkgfniihiinaaGreatDoorJ69
import Derived.Test.YtagkgfniihiinaaGreatDoorJ20
import Derived.Test.YtagkgfniihiinaaGreatDoorJ92
import Derived.Test.YtagkgfniihiinaaGreatDoorJ68
import Derived.Test.YtagkgfniihiinaaGreatDoorJ49
namespace Go.Proofs.YtagkgfniihiinaaGreatDoor
theorem dec_free10 (u:Nat):(10:UInt8) ∉ Lib.decDigits u:=fun h=>absurd (Cl u _ h) (by decide)
theorem Bj (n:Int):(10:UInt8) ∉ Lib.itoa n:=by
 unfold Lib.itoa;split
 · intro h
   rcases List.mem_cons.1 h with h | h
   · exact absurd h (by decide)
   · exact dec_free10 _ h
 · exact dec_free10 _
theorem real_free10 {r:Nat} (h:r<18446744073709551616):(10:UInt8) ∉ A5 r:=by
 cases hnan:nanF r with
 | true=>rw [Dw hnan];decide
 | false=>
   rw [Cs hnan];have hb:=C1 hnan;intro hm;rcases List.mem_append.1 hm with hm | hm
   · unfold A0 at hm
     split at hm
     · rw [List.mem_singleton] at hm;exact absurd hm (by decide)
     · cases hm
   · rcases Nat.eq_or_lt_of_le hb with h1 | h1
     · rw [h1] at hm
       unfold Bf at hm;rw [if_pos rfl] at hm;exact absurd hm (by decide)
     · rcases Nat.eq_zero_or_pos (r % 9223372036854775808) with h0 | h0
       · rw [h0,Dl] at hm;exact absurd hm (by decide)
       · obtain ⟨_,d,L,m,x,hR⟩:=Cu (s:=⟨(Bf (r % 9223372036854775808)).toArray⟩) (neg:=false) h0 h1 rfl
         obtain ⟨⟨c,b,rest,e1,_,_,_,e5⟩,_,_⟩:=hR.txt;have e6:Bf (r % 9223372036854775808)=c :: b:=e1;rw [e6] at hm;rcases e5 10 hm with h | h | h | h | h
         · exact absurd h (by decide)
         all_goals exact absurd h (by decide)
theorem crlf_free10 {t:ByteArray} (h:D8 t=false):(10:UInt8) ∉ t.data.toList:=by
 intro hm;unfold D8 Lib.containsAny at h;rw [decide_eq_false_iff_not] at h;refine h ?_;have key:∀(l:List UInt8),(10:UInt8)∈l->0<=Lib.indexAny l [13,10]:=by
   intro l;induction l with
   | nil=>intro h;cases h
   | cons b l ih=>
     intro h;unfold Lib.indexAny;split
     · exact Int.le_refl _
     · rename_i hb
       rcases List.mem_cons.1 h with h | h
       · subst h;exact absurd (by decide) hb
       · have:=ih h
         split
         · rename_i h2
           have h3:=beq_iff_eq.1 h2;omega
         · omega
 exact key _ hm
theorem big_free10 {t:ByteArray} (h:bigB t=true):(10:UInt8) ∉ t.data.toList:=by
 rw [bigB_eq,Bool.and_eq_true,List.all_eq_true] at h;intro hm;have hd:=h.2;unfold Fc at hd;have n13:digB 10=false:=by decide
 split at hd
 · rename_i h45
   cases hl:t.data.toList with
   | nil=>rw [hl] at hm;cases hm
   | cons c l=>
     rw [hl] at hm hd h45;rcases List.mem_cons.1 hm with h1 | h1
     · rw [List.head?_cons] at h45
       have:=Option.some.inj h45;rw [<-h1] at this;exact absurd this (by decide)
     · have:=hd 10 (by simpa using h1)
       rw [n13] at this;cases this
 · have:=hd 10 (by simpa using hm)
   rw [n13] at this;cases this
theorem index_at:∀{t:List UInt8} {c:UInt8} (z:List UInt8),c ∉ t->Lib.indexByte (t++c :: z) c=(t.length:Int)
 | [],c,z,_=>by
   show Lib.indexByte (c :: z) c=0;unfold Lib.indexByte;rw [if_pos (by simp)]
 | x :: t,c,z,h=>by
   have hx:¬(x == c)=true:=fun e=>h (by rw [beq_iff_eq.1 e];exact List.mem_cons_self ..);have ih:=index_at (t:=t) z (fun hm=>h (List.mem_cons_of_mem _ hm));rw [List.cons_append];unfold Lib.indexByte;rw [if_neg hx,ih,if_neg (by simp),List.length_cons];omega
theorem index_no:∀{t:List UInt8} {c:UInt8},c ∉ t->Lib.indexByte t c=-1
 | [],_,_=>rfl
 | x :: t,c,h=>by
   have hx:¬(x == c)=true:=fun e=>h (by rw [beq_iff_eq.1 e];exact List.mem_cons_self ..);unfold Lib.indexByte;rw [if_neg hx,index_no (fun hm=>h (List.mem_cons_of_mem _ hm)),if_pos (by rfl)]
theorem Ep {t z:List UInt8} (h13:(13:UInt8) ∉ t) (h10:(10:UInt8) ∉ t) (hz:t.length<=4198):Bw (t++13 :: 10 :: z)=.got (t,t.length+2):=by
 obtain ⟨z', hR⟩:∃z', (t++13 :: 10 :: z).take 4200=t++13 :: 10 :: z' := by
   refine ⟨z.take (4200 - t.length - 2),?_⟩;rw [List.take_append,List.take_of_length_le (by omega)];congr 1;obtain ⟨k,hk⟩:∃k,4200 - t.length=k+2:=⟨4200 - t.length - 2,by omega⟩;rw [hk,List.take_succ_cons,List.take_succ_cons,show k+2 - 2=k by omega]
 have e1:Lib.indexByte (t++13 :: 10 :: z') 13=(t.length:Int):=index_at _ h13;have e2:Lib.indexByte (t++13 :: 10 :: z') 10=((t.length+1:Nat):Int):=by
   have:=index_at (t:=t++[13]) (c:=10) z' (fun hm=>by
     rcases List.mem_append.1 hm with hm | hm
     · exact h10 hm
     · rw [List.mem_singleton] at hm;exact absurd hm (by decide))
   rw [List.append_assoc,List.length_append] at this;exact this
 unfold Bw;rw [hR];dsimp only;rw [e1,e2,if_neg (by omega),if_neg (by omega)];congr 2
 · rw [show (((t.length+1:Nat):Int) - 1).toNat=t.length by omega,List.take_left]
theorem lineS_wait {t p q:List UInt8} (h13:(13:UInt8) ∉ t) (h10:(10:UInt8) ∉ t) (hz:t.length<=4198) (h:t++[13,10]=p++q) (hq:q≠[]):Bw p=.stop 0:=by
 have hl:p.length<=t.length+1:=by
   have:=congrArg List.length h;have h1:0<q.length:=List.length_pos_iff.2 hq;simp only [List.length_append,List.length_cons,List.length_nil] at this;omega
 have hp:p=(t++[13]).take p.length:=by
   have h1:p=(t++[13,10]).take p.length:=by rw [h,List.take_left]
   rw [show t++[13,10]=(t++[13])++[10] by simp,List.take_append_of_le_length (by simp;omega)] at h1;exact h1
 have m10:(10:UInt8) ∉ p:=fun hm=>by
   rw [hp] at hm;have:=List.mem_of_mem_take hm;rcases List.mem_append.1 this with hm | hm
   · exact h10 hm
   · rw [List.mem_singleton] at hm;exact absurd hm (by decide)
 have e10:=index_no m10;have e13:Lib.indexByte p 13=-1\/Lib.indexByte p 13=(p.length:Int) - 1:=by
   rcases Nat.lt_or_ge t.length p.length with h1 | h1
   · right
     have hpl:p=t++[13]:=by rw [hp];exact List.take_of_length_le (by simp;omega)
     rw [hpl,index_at [] h13];simp
   · left
     rw [hp,List.take_append_of_le_length h1];exact index_no (fun hm=>h13 (List.mem_of_mem_take hm))
 unfold Bw;rw [List.take_of_length_le (show p.length<=4200 by omega)];dsimp only;rw [e10,if_neg (by omega),if_pos (by decide)]
theorem longS_got {t z:List UInt8}:Ez (t++13 :: 10 :: z) t.length=.got t:=by
 unfold Ez;have e1:(t++13 :: 10 :: z).getD t.length 0=13:=by simp [List.getD]
 have e2:(t++13 :: 10 :: z).getD (t.length+1) 0=10:=by simp [List.getD]
 rw [e1,e2,if_neg (by simp),if_neg (by simp),List.take_left]
theorem getD_app {p q:List UInt8} {k:Nat} (h:k<p.length):p.getD k 0=(p++q).getD k 0:=by
 simp only [List.getD];rw [List.getElem?_append_left h]
theorem longS_wait {t p q:List UInt8} (h:t++[13,10]=p++q) (hq:q≠[]):Ez p t.length=.stop 0:=by
 have hl:p.length<=t.length+1:=by
   have:=congrArg List.length h;have h1:0<q.length:=List.length_pos_iff.2 hq;simp only [List.length_append,List.length_cons,List.length_nil] at this;omega
 unfold Ez;rw [if_neg,if_pos (by omega)];rintro (⟨h1,h2⟩ | ⟨h1,_⟩)
 · refine h2 ?_
   rw [getD_app (q:=q) h1,<-h];simp [List.getD]
 · omega
def Part (p l:List UInt8):Prop:=∃q,q≠[]/\l=p++q
theorem Part.cons {p l:List UInt8} {c:UInt8} (h:Part p (c :: l)):p=[]\/∃p', p=c :: p' /\ Part p' l:=by
 obtain ⟨q,hq,e⟩:=h;cases p with
 | nil=>exact .inl rfl
 | cons x p=>
   obtain ⟨e1,e2⟩:=List.cons.inj e;exact .inr ⟨p,by rw [e1],q,hq,e2⟩
theorem Part.app {p a b:List UInt8} (h:Part p (a++b)):Part p a\/∃p', p=a++p' /\ Part p' b:=by
 induction a generalizing p with
 | nil=>exact .inr ⟨p,rfl,h⟩
 | cons c a ih=>
   rcases Part.cons (c:=c) (l:=a++b) h with rfl | ⟨p', rfl,h'⟩
   · exact .inl ⟨c :: a,by simp,rfl⟩
   · rcases ih h' with ⟨q,hq,e⟩ | ⟨p2,rfl,h2⟩
     · exact .inl ⟨q,hq,by rw [e];rfl⟩
     · exact .inr ⟨p2,rfl,h2⟩
theorem Part.line {p t:List UInt8} {m:UInt8} (h:Part p (B0 m t)) (h13:(13:UInt8) ∉ t) (h10:(10:UInt8) ∉ t) (hz:t.length<=4198):p=[]\/∃p', p=m :: p' /\ Bw p' = .stop 0:=by
 rcases Part.cons h with rfl | ⟨p', rfl,q,hq,e⟩
 · exact .inl rfl
 · exact .inr ⟨p', rfl,lineS_wait h13 h10 hz e hq⟩
theorem head_wait {rp:Rp} {p:List UInt8} {c:UInt8} (hk:Ac c≠0) (h:Bw p=.stop 0):Ch rp (c :: p)=.stop 0:=by
 unfold Ch;dsimp only;rw [if_neg hk,h]
theorem needH_wait {rp:Rp} {p:List UInt8} {c:UInt8} (h:Bw p=.stop 0):Fj rp (c :: p):=by
 intro c' L' t u e _ hl;obtain ⟨_,e2⟩:=List.cons.inj e;rw [<-e2,h] at hl;cases hl
theorem Ew {rp:Rp} {lv many:Nat} {L:List UInt8} {q:Nat} (h:Ch rp L=.stop q) (hn:Fj rp L):A4 rp lv many L=.stop q/\Cy rp lv many L:=by
 cases lv with
 | zero=>exact ⟨by rw [A4,h],hn⟩
 | succ lv=>exact ⟨by rw [A4,h],hn,fun kd n u e=>by rw [h] at e;cases e⟩
theorem E4 {rp:Rp} {lv many u:Nat} {L:List UInt8} {v:V} (h:Ch rp L=.leaf v u) (hn:Fj rp L):A4 rp lv many L=.got (v,u,many)/\Cy rp lv many L:=by
 cases lv with
 | zero=>exact ⟨by rw [A4,h],hn⟩
 | succ lv=>exact ⟨by rw [A4,h],hn,fun kd n u e=>by rw [h] at e;cases e⟩
theorem scan_nil {rp:Rp} {lv many:Nat}:A4 rp lv many []=.stop 0/\Cy rp lv many []:=
 Ew rfl (fun c L t u e=>by cases e)
theorem Fl (m:UInt8) (t z:List UInt8):B0 m t++z=m :: (t++13 :: 10 :: z):=by unfold B0;simp
theorem Df {rp:Rp} {m:UInt8} {t z:List UInt8} (h13:(13:UInt8) ∉ t) (h10:(10:UInt8) ∉ t) (hz:t.length<=4198) (hK:Ac m=7->rp.K t):Fj rp (m :: (t++13 :: 10 :: z)):=by
 intro c L' t' u e hk hl;obtain ⟨e1,e2⟩:=List.cons.inj e;rw [<-e2,Ep h13 h10 hz] at hl;simp only [Out.got.injEq,Prod.mk.injEq] at hl;rw [<-hl.1];exact hK (by rw [e1];exact hk)
structure RpOk (rp:Rp):Prop where
 reads:∀r,r<18446744073709551616->rp (A5 r)=some (C2 r)
 known:∀r,r<18446744073709551616->rp.K (A5 r)
theorem itoa_reads (n:Nat) (h:n<=9223372036854775807):wP (Lib.itoa (n:Int))=some (n:Int):=wP_iff.2 ⟨by omega,rfl⟩
theorem numS_itoa {n most:Nat} (h:n<=most) (hm:most<=100000):numS (Lib.itoa (n:Int)) most=some n:=by
 unfold numS;rw [itoa_reads n (by omega)];dsimp only;rw [if_pos (by omega)];rfl
theorem Eg {n:Int} (h0:-9223372036854775808<=n) (h1:n<=9223372036854775807):(Lib.itoa n).length<=4198:=by
 have:=itoa_len21 h0 h1;omega
theorem itoa_not_m1 (n:Nat):Lib.itoa (n:Int)≠[45,49]:=by
 intro h;have h1:=(wP_iff (l:=Lib.itoa (n:Int)) (v:=(n:Int)));have h2:Lib.itoa (-1)=[45,49]:=by decide +kernel
 rw [<-h2] at h;have:=itoa_inj h;omega
theorem Er {r:Nat} (h:Bb r=0):r=0:=by
 unfold Bb at h;split at h
 · cases h
 · exact h
theorem text_list (t:ByteArray):(⟨t.data.toList.toArray⟩:ByteArray)=t:=ByteArray.ext (by simp)
theorem Gb (k:Int) (t:ByteArray) (i:Int) (r:Nat) (f:Bool) (l:List V):(V.mk k t i r f l).norm=.mk k t i (Bb r) f (l.map V.norm):=by rw [V.norm,V.normL_map]
theorem kind_mark:∀k:Fin 15,1<=k.val->Ac (Ba k.val)=k.val:=by decide
theorem kind_of_mark {k:Int} (h:1<=k/\k<=14):(Ac (Ba k):Int)=k:=by
 have:=kind_mark ⟨k.toNat,by omega⟩ (by show 1<=k.toNat;omega);have e:((k.toNat:Nat):Int)=k:=by omega
 simp only at this;rw [e] at this;rw [this];exact e
theorem kind_eq {k:Int} (h:1<=k/\k<=14) {j:Nat} (hj:k=j):Ac (Ba k)=j:=by
 have:=kind_of_mark h;omega
theorem head_line {rp:Rp} {m:UInt8} {t z:List UInt8} {v:V} (h13:(13:UInt8) ∉ t) (h10:(10:UInt8) ∉ t) (hz:t.length<=4198)
   (hk:Ac m=1\/Ac m=2\/Ac m=9\/Ac m=3\/Ac m=7\/Ac m=8\/Ac m=6) (ho:C3 (rp t) (Ac m) ⟨t.toArray⟩=some v) (ok:okV v=true) :
   Ch rp (m :: (t++13 :: 10 :: z))=.leaf v (t.length+3):=by
 unfold Ch
 dsimp only
 rw [if_neg (by omega),Ep h13 h10 hz]
 dsimp only
 rw [if_neg (by omega),if_neg (by omega),if_neg (by omega),if_neg (by omega),ho]
 dsimp only
 rw [if_pos ok,show 1+(t.length+2)=t.length+3 by omega]
theorem head_long {rp:Rp} {m:UInt8} {t z:List UInt8} (hz:t.length<=4096) (hk:Ac m=4\/Ac m=10\/Ac m=11) (ok:okV (A7 (Ac m) ⟨t.toArray⟩ 0 0 false)=true) :
   Ch rp (Ee m t++z)=.leaf (A7 (Ac m) ⟨t.toArray⟩ 0 0 false) (Ee m t).length:=by
 have hi:=Eg (n:=(t.length:Int)) (by omega) (by omega)
 have e:Ee m t++z=m :: (Lib.itoa (t.length:Int)++13 :: 10 :: (t++13 :: 10 :: z)):=by unfold Ee numL B0;simp
 have el:(Ee m t).length=1+((Lib.itoa (t.length:Int)).length+2)+(t.length+2):=by unfold Ee numL B0;simp;omega
 rw [e,el]
 unfold Ch
 dsimp only
 rw [if_neg (by omega),Ep (Cb _) (Bj _) hi]
 dsimp only
 rw [if_neg (fun h=>itoa_not_m1 _ h.1),if_pos hk,numS_itoa hz (by decide)]
 dsimp only
 rw [show (Lib.itoa (t.length:Int)++13 :: 10 :: (t++13 :: 10 :: z))=(Lib.itoa (t.length:Int)++[13,10])++(t++13 :: 10 :: z) by simp,
   show (Lib.itoa (t.length:Int)).length+2=(Lib.itoa (t.length:Int)++[13,10]).length by simp,List.drop_left,longS_got]
 dsimp only
 rw [if_pos ok]
theorem head_list {rp:Rp} {m:UInt8} {n:Nat} {z:List UInt8} (hn:n<=1000) (hk:Ac m=5\/Ac m=13\/Ac m=14\/Ac m=12) :
   Ch rp (numL m (n:Int)++z)=.list (Ac m) (if Ac m=12 then 2 * n else n) (numL m (n:Int)).length:=by
 have hi:=Eg (n:=(n:Int)) (by omega) (by omega)
 have e:numL m (n:Int)++z=m :: (Lib.itoa (n:Int)++13 :: 10 :: z):=by unfold numL B0;simp
 have el:(numL m (n:Int)).length=1+((Lib.itoa (n:Int)).length+2):=by unfold numL B0;simp;omega
 rw [e,el]
 unfold Ch
 dsimp only
 rw [if_neg (by omega),Ep (Cb _) (Bj _) hi]
 dsimp only
 rw [if_neg (fun h=>itoa_not_m1 _ h.1),if_neg (by omega)]
 by_cases h12:Ac m=12
 · rw [if_neg (by omega),if_pos h12,numS_itoa hn (by decide),if_pos h12,h12]
 · rw [if_pos (by omega),numS_itoa hn (by decide),if_neg h12]
theorem ok7 (r r' : Nat) (h:okV (A7 7 ⟨#[]⟩ 0 r false)=true):okV (A7 7 ⟨#[]⟩ 0 r' false)=true:=h
theorem wire_leaf {rp:Rp} (hrp:RpOk rp) {v:V} (ho:okV v=true) (hr:v.ranged) (hl:v.kind=1\/v.kind=2\/v.kind=9\/v.kind=3\/v.kind=7\/v.kind=8\/v.kind=6) :
   ∃t,v.wire=B0 (Ba v.kind) t/\(13:UInt8) ∉ t/\(10:UInt8) ∉ t/\t.length<=4198/\(v.kind=7->rp.K t)/\C3 (rp t) v.kind.toNat ⟨t.toArray⟩=some v.norm/\okV v.norm=true:=by
 have oo:=Du ho
 obtain ⟨k,t,i,r,f,l⟩:=v
 have ok1:=oo.kind
 have ok2:=oo.text
 have ok3:=oo.int
 have ok4:=oo.real
 have ok5:=oo.flag
 have ok6:=oo.list
 have ok7' := oo.line
 have ok8:=oo.big
 have ok9:=oo.size
 rw [V.ranged_eq] at hr
 obtain ⟨r1,r2,r3,_⟩:=hr
 simp only [V.kind,V.text,V.int,V.real,V.flag,V.list] at ok1 ok2 ok3 ok4 ok5 ok6 ok7' ok8 ok9 r1 r2 r3 hl ⊢
 clear oo
 have hlist:l=[]:=ok6 (by omega)
 subst hlist
 rw [Gb,List.map_nil]
 by_cases c1:k=1\/k=2\/k=9
 · have hi:=ok3 (by omega)
   have hr0:=Er (ok4 (by omega));have hf:=ok5 (by omega);subst hi hr0 hf;have hb:Bb 0=0:=ok4 (by omega);rw [hb];have fr:(13:UInt8) ∉ t.data.toList/\(10:UInt8) ∉ t.data.toList:=by
     by_cases c:k=9
     · exact ⟨big_free (ok8 c),big_free10 (ok8 c)⟩
     · exact ⟨crlf_free (ok7' (by omega)),crlf_free10 (ok7' (by omega))⟩
   refine ⟨t.data.toList,by rw [V.wire,if_pos c1],fr.1,fr.2,by have:=size_l' t;omega,fun h=>by omega,?_,ho⟩;unfold C3;rw [if_pos (by omega),text_list,show ((k.toNat:Nat):Int)=k by omega];rfl
 have ht:=ok2 (by omega)
 subst ht
 by_cases c2:k=3
 · subst c2
   have hr0:=Er (ok4 (by omega));have hf:=ok5 (by omega);subst hr0 hf;have hb:Bb 0=0:=ok4 (by omega);rw [hb];refine ⟨Lib.itoa i,by rw [V.wire,if_neg c1,if_pos rfl];rfl,Cb _,Bj _,Eg r1 r2,fun h=>by omega,?_,ho⟩;unfold C3;rw [if_neg (by decide),if_pos (by decide)];have:wP (Lib.itoa i).toArray.toList=some i:=wP_iff.2 ⟨⟨r1,r2⟩,by simp⟩;rw [this];rfl
 have hi:=ok3 c2
 subst hi
 by_cases c3:k=7
 · subst c3
   have hf:=ok5 (by omega);subst hf;refine ⟨A5 r,by rw [V.wire,if_neg c1,if_neg c2,if_pos rfl];rfl,real_free r3,real_free10 r3,by have:=text_len r3;omega,fun _=>hrp.known r r3,?_,ok7 r _ ho⟩;unfold C3;rw [if_neg (by decide),if_neg (by decide),if_pos (by decide),hrp.reads r r3,bits_canon r3];rfl
 have hr0:=Er (ok4 c3)
 subst hr0
 have hb:Bb 0=0:=ok4 c3
 rw [hb]
 by_cases c4:k=8
 · subst c4
   refine ⟨if f then [116] else [102],by rw [V.wire,if_neg c1,if_neg c2,if_neg c3,if_pos rfl];rfl,by cases f<;>decide,by cases f<;>decide,by cases f<;>decide,fun h=>by omega,?_,ho⟩;unfold C3;rw [if_neg (by decide),if_neg (by decide),if_neg (by decide),if_pos (by decide)];cases f
   · rw [if_neg (by decide),if_pos (by rfl)];rfl
   · rw [if_pos (by rfl)];rfl
 have c5:k=6:=by omega
 subst c5
 have hf:=ok5 (by omega)
 subst hf
 refine ⟨[],by rw [V.wire,if_neg c1,if_neg c2,if_neg c3,if_neg c4,if_pos rfl];rfl,by decide,by decide,by decide,fun h=>by omega,?_,ho⟩
 unfold C3
 rw [if_neg (by decide),if_neg (by decide),if_neg (by decide),if_neg (by decide),if_pos (by rfl)]
 rfl
theorem wire_long {v:V} (ho:okV v=true) (hl:v.kind=4\/v.kind=10\/v.kind=11) :
   v.wire=Ee (Ba v.kind) v.text.data.toList/\v.norm=A7 v.kind v.text 0 0 false/\okV (A7 v.kind v.text 0 0 false)=true:=by
 have oo:=Du ho
 obtain ⟨k,t,i,r,f,l⟩:=v
 have ok3:=oo.int
 have ok4:=oo.real
 have ok5:=oo.flag
 have ok6:=oo.list
 simp only [V.kind,V.text,V.int,V.real,V.flag,V.list] at ok3 ok4 ok5 ok6 hl ⊢
 clear oo
 have hlist:l=[]:=ok6 (by omega)
 have hi:=ok3 (by omega)
 have hr0:=Er (ok4 (by omega))
 have hf:=ok5 (by omega)
 subst hlist hi hr0 hf
 have hb:Bb 0=0:=ok4 (by omega)
 refine ⟨by rw [V.wire,if_neg (by omega),if_neg (by omega),if_neg (by omega),if_neg (by omega),if_neg (by omega),if_pos hl],by rw [Gb,hb];rfl,ho⟩
theorem wire_list {v:V} (ho:okV v=true) (hl:v.kind=5\/v.kind=12\/v.kind=13\/v.kind=14) :
   v.wire=numL (Ba v.kind) (Bn v.kind v.list.length)++V.wireL v.list/\v.norm=.mk v.kind ⟨#[]⟩ 0 0 false (v.list.map V.norm)/\(v.kind=12->v.list.length % 2=0)/\(v.kind=14->v.list.length≠0):=by
 have oo:=Du ho
 obtain ⟨k,t,i,r,f,l⟩:=v
 have ok2:=oo.text
 have ok3:=oo.int
 have ok4:=oo.real
 have ok5:=oo.flag
 have ok8:=oo.even
 simp only [V.kind,V.text,V.int,V.real,V.flag,V.list] at ok2 ok3 ok4 ok5 ok8 hl ⊢
 clear oo
 have ht:=ok2 (by omega)
 have hi:=ok3 (by omega)
 have hr0:=Er (ok4 (by omega))
 have hf:=ok5 (by omega)
 subst ht hi hr0 hf
 have hb:Bb 0=0:=ok4 (by omega)
 refine ⟨by rw [V.wire,if_neg (by omega),if_neg (by omega),if_neg (by omega),if_neg (by omega),if_neg (by omega),if_neg (by omega),if_pos hl],by rw [Gb,hb],ok8,fun h14 h0=>?_⟩
 subst h14
 unfold okV Bs at ho
 simp [V.kind,V.list,h0] at ho
theorem scan_wire {rp:Rp} (hrp:RpOk rp) (v:V):∀(lv many:Nat) (z:List UInt8),v.fine (lv:Int)=true->v.ranged->(v.kind=14->8<=lv)->many+v.count<=1001 ->
   A4 rp lv many (v.wire++z)=.got (v.norm,v.wire.length,many+v.count - 1)/\Cy rp lv many (v.wire++z):=by
 induction v using V.ind with
 | h v ih=>
 intro lv many z hf hr h14 hc
 have hf0:=hf
 rw [V.fine_eq,Bool.and_eq_true,Bool.and_eq_true] at hf
 obtain ⟨⟨ho,hlv⟩,hfl⟩:=hf
 have oo:=Du ho
 have hk:=oo.kind
 have hkn:Ac (Ba v.kind)=v.kind.toNat:=kind_eq hk (by omega)
 have hce:=v.count_eq
 by_cases hleaf:v.kind=1\/v.kind=2\/v.kind=9\/v.kind=3\/v.kind=7\/v.kind=8\/v.kind=6
 · obtain ⟨t,e1,h13,h10,hz,hK,hs,ok⟩:=wire_leaf hrp ho hr hleaf
   have hll:v.list=[]:=oo.list (by omega);have hc1:v.count=1:=by rw [hce,hll];rfl
   rw [e1,Fl,Dy,hc1];refine E4 (head_line h13 h10 hz (by rw [hkn];omega) (by rw [hkn];exact hs) ok) (Df h13 h10 hz fun h7=>hK (by omega))
 by_cases hlong:v.kind=4\/v.kind=10\/v.kind=11
 · obtain ⟨e1,e2,ok⟩:=wire_long ho hlong
   have hll:v.list=[]:=oo.list (by omega);have hc1:v.count=1:=by rw [hce,hll];rfl
   have hkz:((v.kind.toNat:Nat):Int)=v.kind:=by omega
   have hsz:=oo.size;rw [e1,e2,hc1];have hh:=head_long (rp:=rp) (m:=Ba v.kind) (t:=v.text.data.toList) (z:=z) (by have:=size_l' v.text;omega) (by rw [hkn];omega) (by rw [hkn,hkz,text_list];exact ok);rw [hkn,hkz,text_list] at hh;refine E4 hh ?_;have e:Ee (Ba v.kind) v.text.data.toList++z=Ba v.kind :: (Lib.itoa (v.text.data.toList.length:Int)++13 :: 10 :: (v.text.data.toList++13 :: 10 :: z)):=by unfold Ee numL B0;simp
   rw [e];have hsl:=size_l' v.text;exact Df (Cb _) (Bj _) (Eg (by omega) (by omega)) fun h7=>by omega
 have hlist:v.kind=5\/v.kind=12\/v.kind=13\/v.kind=14:=by omega
 obtain ⟨e1,e2,h12,h14'⟩:=wire_list ho hlist
 have hkz:((v.kind.toNat:Nat):Int)=v.kind:=by omega
 have hlen:=V.length_le v.list
 have hmk:Bn v.kind v.list.length<=1000:=by unfold Bn;split<;>omega
 obtain ⟨lv', rfl⟩:∃lv', lv=lv' + 1:=by
   cases lv with
   | zero=>
     have:Au v.kind=true:=by unfold Au;exact decide_eq_true hlist
     rw [this] at hlv;simp at hlv
   | succ k=>exact ⟨k,rfl⟩
 rw [V.ranged_eq] at hr
 have hrl:=hr.2.2.2
 have key:∀(l:List V),(∀x∈l,x∈v.list)->V.fineL l ((lv' : Nat):Int)=true->V.rangedL l->∀(m:Nat) (z:List UInt8),m+V.countL l<=1000+l.length ->
     Cf (A4 rp lv') l.length m (V.wireL l++z)=.got (l.map V.norm,(V.wireL l).length,m+V.countL l - l.length)/\needN (Cy rp lv') (A4 rp lv') l.length m (V.wireL l++z):=by
   intro l
   induction l with
   | nil=>intro _ _ _ m z _;exact ⟨by simp [Cf,V.wireL,V.countL],trivial⟩
   | cons x l ihl=>
     intro hm h1 h2 m z hc;simp only [V.fineL,Bool.and_eq_true,decide_eq_true_eq] at h1;simp only [V.countL,List.length_cons] at hc ⊢;have hxp:=x.count_pos;have hll:=V.length_le l;obtain ⟨a1,a2⟩:=ih x (hm x (List.mem_cons_self ..)) lv' m (V.wireL l++z) h1.1.2 h2.1 (fun h=>absurd h h1.1.1) (by omega);obtain ⟨b1,b2⟩:=ihl (fun y hy=>hm y (List.mem_cons_of_mem _ hy)) h1.2 h2.2 (m+x.count - 1) z (by omega);rw [V.wireL,List.append_assoc];refine ⟨?_,a2,fun v' u' m' e=>?_⟩
     · rw [Cf,a1]
       dsimp only;rw [List.drop_left,b1];dsimp only;rw [List.map_cons,List.length_append,show m+x.count - 1+V.countL l - l.length=m+(x.count+V.countL l) - (l.length+1) by omega]
     · rw [a1] at e
       simp only [Out.got.injEq,Prod.mk.injEq] at e;rw [<-e.2.1,<-e.2.2,List.drop_left];exact b2
 have hfl' : V.fineL v.list ((lv' : Nat):Int)=true:=by
   rw [show ((lv' + 1:Nat):Int) - 1=(lv' : Int) by omega] at hfl;exact hfl
 obtain ⟨k1,k2⟩:=key v.list (fun _ h=>h) hfl' hrl (many+v.list.length) z (by omega)
 have hh:=head_list (rp:=rp) (m:=Ba v.kind) (n:=Bn v.kind v.list.length) (z:=V.wireL v.list++z) hmk (by rw [hkn];omega)
 have hN:(if Ac (Ba v.kind)=12 then 2 * Bn v.kind v.list.length else Bn v.kind v.list.length)=v.list.length:=by
   rw [hkn];by_cases c:v.kind=12
   · have:=h12 c
     rw [if_pos (by omega),Bn,if_pos c];omega
   · rw [if_neg (by omega),Bn,if_neg c]
 rw [hN,hkn] at hh
 rw [e1,e2,List.append_assoc]
 have hne:Fj rp (numL (Ba v.kind) (Bn v.kind v.list.length:Nat)++(V.wireL v.list++z)):=by
   unfold numL;rw [Fl];exact Df (Cb _) (Bj _) (Eg (by omega) (by omega)) fun h7=>by omega
 refine ⟨?_,hne,fun kd n u e=>?_⟩
 · rw [A4,hh]
   dsimp only;rw [if_neg (by
     rintro (h | ⟨h,h'⟩)
     · omega
     · have e14:v.kind=14:=by omega
       rcases h' with h' | h'
       · exact h14' e14 h'
       · have:=h14 e14;omega)]
   rw [List.drop_left,k1];dsimp only;rw [hkz,List.length_append];congr 3;omega
 · rw [hh] at e
   simp only [Head.list.injEq] at e;rw [<-e.2.1,<-e.2.2,List.drop_left];exact k2
theorem E0 {rp:Rp} {p t:List UInt8} {m:UInt8} {lv many:Nat} (h:Part p (B0 m t)) (hk:Ac m≠0) (h13:(13:UInt8) ∉ t) (h10:(10:UInt8) ∉ t) (hz:t.length<=4198):A4 rp lv many p=.stop 0/\Cy rp lv many p:=by
 rcases h.line h13 h10 hz with rfl | ⟨p', rfl,hl⟩
 · exact scan_nil
 · exact Ew (head_wait hk hl) (needH_wait hl)
theorem head_long_wait {rp:Rp} {m:UInt8} {t p:List UInt8} (hz:t.length<=4096) (hk:Ac m=4\/Ac m=10\/Ac m=11) (hp:Part p (t++[13,10])):Ch rp (numL m (t.length:Int)++p)=.stop 0:=by
 have hi:=Eg (n:=(t.length:Int)) (by omega) (by omega);have e:numL m (t.length:Int)++p=m :: (Lib.itoa (t.length:Int)++13 :: 10 :: p):=by unfold numL B0;simp
 obtain ⟨q,hq,hpq⟩:=hp;rw [e];unfold Ch;dsimp only;rw [if_neg (by omega),Ep (Cb _) (Bj _) hi];dsimp only;rw [if_neg (fun h=>itoa_not_m1 _ h.1),if_pos hk,numS_itoa hz (by decide)];dsimp only
 rw [show (Lib.itoa (t.length:Int)++13 :: 10 :: p)=(Lib.itoa (t.length:Int)++[13,10])++p by simp,
   show (Lib.itoa (t.length:Int)).length+2=(Lib.itoa (t.length:Int)++[13,10]).length by simp,List.drop_left,longS_wait hpq hq]
theorem scan_wait {rp:Rp} (hrp:RpOk rp) (v:V):∀(lv many:Nat) (p:List UInt8),v.fine (lv:Int)=true->v.ranged->(v.kind=14->8<=lv)->many+v.count<=1001->Part p v.wire ->
   A4 rp lv many p=.stop 0/\Cy rp lv many p:=by
 induction v using V.ind with
 | h v ih=>
 intro lv many p hf hr h14 hc hp
 have hf0:=hf
 rw [V.fine_eq,Bool.and_eq_true,Bool.and_eq_true] at hf
 obtain ⟨⟨ho,hlv⟩,hfl⟩:=hf
 have oo:=Du ho
 have hk:=oo.kind
 have hkn:Ac (Ba v.kind)=v.kind.toNat:=kind_eq hk (by omega)
 have hce:=v.count_eq
 by_cases hleaf:v.kind=1\/v.kind=2\/v.kind=9\/v.kind=3\/v.kind=7\/v.kind=8\/v.kind=6
 · obtain ⟨t,e1,h13,h10,hz,hK,hs,ok⟩:=wire_leaf hrp ho hr hleaf
   rw [e1] at hp;exact E0 hp (by omega) h13 h10 hz
 by_cases hlong:v.kind=4\/v.kind=10\/v.kind=11
 · obtain ⟨e1,e2,ok⟩:=wire_long ho hlong
   have hsz:=oo.size;have hsl:=size_l' v.text;have hi:=Eg (n:=(v.text.data.toList.length:Int)) (by omega) (by omega);rw [e1] at hp;unfold Ee at hp;rcases hp.app with hp | ⟨p', rfl,hp'⟩
   · exact E0 hp (by omega) (Cb _) (Bj _) hi
   · refine Ew (head_long_wait (by omega) (by rw [hkn];omega) hp') ?_
     unfold numL;rw [Fl];exact Df (Cb _) (Bj _) hi fun h7=>by omega
 have hlist:v.kind=5\/v.kind=12\/v.kind=13\/v.kind=14:=by omega
 obtain ⟨e1,e2,h12,h14'⟩:=wire_list ho hlist
 have hlen:=V.length_le v.list
 have hmk:Bn v.kind v.list.length<=1000:=by unfold Bn;split<;>omega
 have hi:=Eg (n:=((Bn v.kind v.list.length:Nat):Int)) (by omega) (by omega)
 rw [e1] at hp
 rcases hp.app with hp | ⟨p', rfl,hp'⟩
 · exact E0 hp (by omega) (Cb _) (Bj _) hi
 obtain ⟨lv', rfl⟩:∃lv', lv=lv' + 1:=by
   cases lv with
   | zero=>
     have:Au v.kind=true:=by unfold Au;exact decide_eq_true hlist
     rw [this] at hlv;simp at hlv
   | succ k=>exact ⟨k,rfl⟩
 rw [V.ranged_eq] at hr
 have hrl:=hr.2.2.2
 have key:∀(l:List V),(∀x∈l,x∈v.list)->V.fineL l ((lv' : Nat):Int)=true->V.rangedL l->∀(m:Nat) (p:List UInt8),m+V.countL l<=1000+l.length->Part p (V.wireL l) ->
     Cf (A4 rp lv') l.length m p=.stop 0/\needN (Cy rp lv') (A4 rp lv') l.length m p:=by
   intro l
   induction l with
   | nil=>
     rintro _ _ _ m p _ ⟨q,hq,e⟩;rw [V.wireL] at e;have:=congrArg List.length e;have h1:0<q.length:=List.length_pos_iff.2 hq;simp at this;omega
   | cons x l ihl=>
     intro hm h1 h2 m p hc hp;simp only [V.fineL,Bool.and_eq_true,decide_eq_true_eq] at h1;simp only [V.countL,List.length_cons] at hc ⊢;have hxp:=x.count_pos;have hll:=V.length_le l;rw [V.wireL] at hp;rcases hp.app with hp | ⟨p', rfl,hp'⟩
     · obtain ⟨a1,a2⟩:=ih x (hm x (List.mem_cons_self ..)) lv' m p h1.1.2 h2.1 (fun h=>absurd h h1.1.1) (by omega) hp
       exact ⟨by rw [Cf,a1],a2,fun v' u' m' e=>by rw [a1] at e;cases e⟩
     · obtain ⟨a1,a2⟩:=scan_wire hrp x lv' m p' h1.1.2 h2.1 (fun h=>absurd h h1.1.1) (by omega)
       obtain ⟨b1,b2⟩:=ihl (fun y hy=>hm y (List.mem_cons_of_mem _ hy)) h1.2 h2.2 (m+x.count - 1) p' (by omega) hp';refine ⟨?_,a2,fun v' u' m' e=>?_⟩
       · rw [Cf,a1]
         dsimp only;rw [List.drop_left,b1]
       · rw [a1] at e
         simp only [Out.got.injEq,Prod.mk.injEq] at e;rw [<-e.2.1,<-e.2.2,List.drop_left];exact b2
 have hfl' : V.fineL v.list ((lv' : Nat):Int)=true:=by
   rw [show ((lv' + 1:Nat):Int) - 1=(lv' : Int) by omega] at hfl;exact hfl
 obtain ⟨k1,k2⟩:=key v.list (fun _ h=>h) hfl' hrl (many+v.list.length) p' (by omega) hp'
 have hh:=head_list (rp:=rp) (m:=Ba v.kind) (n:=Bn v.kind v.list.length) (z:=p') hmk (by rw [hkn];omega)
 have hN:(if Ac (Ba v.kind)=12 then 2 * Bn v.kind v.list.length else Bn v.kind v.list.length)=v.list.length:=by
   rw [hkn];by_cases c:v.kind=12
   · have:=h12 c
     rw [if_pos (by omega),Bn,if_pos c];omega
   · rw [if_neg (by omega),Bn,if_neg c]
 rw [hN,hkn] at hh
 have hne:Fj rp (numL (Ba v.kind) (Bn v.kind v.list.length:Nat)++p'):=by
   unfold numL;rw [Fl];exact Df (Cb _) (Bj _) hi fun h7=>by omega
 refine ⟨?_,hne,fun kd n u e=>?_⟩
 · rw [A4,hh]
   dsimp only;rw [if_neg (by
     rintro (h | ⟨h,h'⟩)
     · omega
     · have e14:v.kind=14:=by omega
       rcases h' with h' | h'
       · exact h14' e14 h'
       · have:=h14 e14;omega)]
   rw [List.drop_left,k1]
 · rw [hh] at e
   simp only [Head.list.injEq] at e;rw [<-e.2.1,<-e.2.2,List.drop_left];exact k2
end Go.Proofs.YtagkgfniihiinaaGreatDoor
namespace Go.Proofs.YtagkgfniihiinaaGreatDoor
open Go.RowKit Go.Joins
theorem head_null {rp:Rp} (z:List UInt8):Ch rp ([36,45,49,13,10]++z)=.leaf (A7 6 ⟨#[]⟩ 0 0 false) 5/\Fj rp ([36,45,49,13,10]++z):=by
 have e:([36,45,49,13,10]++z:List UInt8)=36 :: ([45,49]++13 :: 10 :: z):=rfl;rw [e];refine ⟨?_,Df (by decide) (by decide) (by decide) fun h7=>absurd h7 (by decide)⟩;unfold Ch;dsimp only;rw [if_neg (by decide),Ep (t:=[45,49]) (by decide) (by decide) (by decide)];dsimp only;rw [if_pos ⟨rfl,.inl (by decide)⟩];rfl
theorem old_wire {v:V} (h6:v.kind≠6) (h5:v.kind≠5):v.old=v.wire:=by rw [V.old_eq,if_neg h6,if_neg h5]
theorem down_parts {v:V} (hd:v.down=v) (h5:v.kind=5):∀x∈v.list,x.down=x:=by
 have h1:=hd;rw [V.down_eq,if_neg (by omega),if_neg (by omega),if_neg (by omega),if_neg (by omega),if_neg (by omega),if_pos (by omega)] at h1;have h2:v.list.map V.down=v.list:=by
   have:=congrArg V.list h1;exact this
 intro x hx;have h3:v.list.map V.down=v.list.map id:=by rw [h2,List.map_id]
 exact List.map_inj_left.1 h3 x hx
theorem scan_old {rp:Rp} (hrp:RpOk rp) (v:V):∀(lv many:Nat) (z:List UInt8),v.fine (lv:Int)=true->v.ranged->v.down=v->many+v.count<=1001 ->
   A4 rp lv many (v.old++z)=.got (v.norm,v.old.length,many+v.count - 1)/\Cy rp lv many (v.old++z):=by
 induction v using V.ind with
 | h v ih=>
 intro lv many z hf hr hd hc
 have hdk:=(down_ok v lv hf hr).kind
 rw [hd] at hdk
 by_cases h6:v.kind=6
 · have hf0:=hf
   rw [V.fine_eq,Bool.and_eq_true,Bool.and_eq_true] at hf;have ho:=hf.1.1;have oo:=Du ho;have hll:v.list=[]:=oo.list (by omega);have hc1:v.count=1:=by rw [v.count_eq,hll];rfl
   have hold:v.old=[36,45,49,13,10]:=by rw [V.old_eq,if_pos h6]
   obtain ⟨a,b⟩:=head_null (rp:=rp) z;have hn:v.norm=A7 6 ⟨#[]⟩ 0 0 false:=by
     obtain ⟨k,t,i,r,f,l⟩:=v;have ok2:=oo.text;have ok3:=oo.int;have ok4:=oo.real;have ok5:=oo.flag;simp only [V.kind,V.text,V.int,V.real,V.flag,V.list] at ok2 ok3 ok4 ok5 h6 hll;subst h6;have ht:=ok2 (by omega);have hi:=ok3 (by omega);have hr0:=Er (ok4 (by omega));have hff:f=false:=ok5 (by omega);subst ht hi hr0 hff hll;have hb:Bb 0=0:=ok4 (by omega);rw [Gb,hb];rfl
   rw [hold,hc1,hn];exact E4 a b
 by_cases h5:v.kind=5
 · have hf0:=hf
   rw [V.fine_eq,Bool.and_eq_true,Bool.and_eq_true] at hf;obtain ⟨⟨ho,hlv⟩,hfl⟩:=hf;have hce:=v.count_eq;have hparts:=down_parts hd h5;obtain ⟨_,e2,_,_⟩:=wire_list ho (.inl h5);have hlen:=V.length_le v.list;obtain ⟨lv', rfl⟩:∃lv', lv=lv' + 1:=by
     cases lv with
     | zero=>
       have:Au v.kind=true:=by unfold Au;exact decide_eq_true (.inl h5)
       rw [this] at hlv;simp at hlv
     | succ k=>exact ⟨k,rfl⟩
   rw [V.ranged_eq] at hr;have hrl:=hr.2.2.2
   have key:∀(l:List V),(∀x∈l,x∈v.list)->V.fineL l ((lv' : Nat):Int)=true->V.rangedL l->∀(m:Nat) (z:List UInt8),m+V.countL l<=1000+l.length ->
       Cf (A4 rp lv') l.length m (V.oldL l++z)=.got (l.map V.norm,(V.oldL l).length,m+V.countL l - l.length)/\needN (Cy rp lv') (A4 rp lv') l.length m (V.oldL l++z):=by
     intro l
     induction l with
     | nil=>intro _ _ _ m z _;exact ⟨by simp [Cf,V.oldL,V.countL],trivial⟩
     | cons x l ihl=>
       intro hm h1 h2 m z hc;simp only [V.fineL,Bool.and_eq_true,decide_eq_true_eq] at h1;simp only [V.countL,List.length_cons] at hc ⊢;have hxp:=x.count_pos;have hll:=V.length_le l;obtain ⟨a1,a2⟩:=ih x (hm x (List.mem_cons_self ..)) lv' m (V.oldL l++z) h1.1.2 h2.1 (hparts x (hm x (List.mem_cons_self ..))) (by omega);obtain ⟨b1,b2⟩:=ihl (fun y hy=>hm y (List.mem_cons_of_mem _ hy)) h1.2 h2.2 (m+x.count - 1) z (by omega);rw [V.oldL,List.append_assoc];refine ⟨?_,a2,fun v' u' m' e=>?_⟩
       · rw [Cf,a1]
         dsimp only;rw [List.drop_left,b1];dsimp only;rw [List.map_cons,List.length_append,show m+x.count - 1+V.countL l - l.length=m+(x.count+V.countL l) - (l.length+1) by omega]
       · rw [a1] at e
         simp only [Out.got.injEq,Prod.mk.injEq] at e;rw [<-e.2.1,<-e.2.2,List.drop_left];exact b2
   have hfl' : V.fineL v.list ((lv' : Nat):Int)=true:=by
     rw [show ((lv' + 1:Nat):Int) - 1=(lv' : Int) by omega] at hfl;exact hfl
   obtain ⟨k1,k2⟩:=key v.list (fun _ h=>h) hfl' hrl (many+v.list.length) z (by omega);have hh:=head_list (rp:=rp) (m:=42) (n:=v.list.length) (z:=V.oldL v.list++z) (by omega) (.inl (by decide));have hk5:Ac 42=5:=by decide
   rw [hk5,if_neg (by decide)] at hh;have e1:v.old=numL 42 v.list.length++V.oldL v.list:=by rw [V.old_eq,if_neg h6,if_pos h5]
   rw [e1,e2,List.append_assoc];have hne:Fj rp (numL 42 (v.list.length:Nat)++(V.oldL v.list++z)):=by
     unfold numL;rw [Fl];exact Df (Cb _) (Bj _) (Eg (by omega) (by omega)) fun h7=>absurd h7 (by decide)
   refine ⟨?_,hne,fun kd n u e=>?_⟩
   · rw [A4,hh]
     dsimp only;rw [if_neg (by
       rintro (h | ⟨h,h'⟩)
       · omega
       · exact absurd h (by decide))]
     rw [List.drop_left,k1];dsimp only;rw [List.length_append,h5];congr 3;omega
   · rw [hh] at e
     simp only [Head.list.injEq] at e;rw [<-e.2.1,<-e.2.2,List.drop_left];exact k2
 · rw [old_wire h6 h5]
   exact scan_wire hrp v lv many z hf hr (fun h=>by omega) hc
end Go.Proofs.YtagkgfniihiinaaGreatDoor
namespace Go.Proofs.YtagkgfniihiinaaGreatDoor
open Go.RowKit
open Classical in
noncomputable def rpW:Rp:=⟨fun t=>if h:∃r,r<18446744073709551616/\A5 r=t then some (C2 h.choose) else none,fun t=>∃r,r<18446744073709551616/\A5 r=t⟩
open Classical in
theorem rpW_ok:RpOk rpW:=⟨fun r hr=>by
 have hex:∃r', r' < 18446744073709551616/\A5 r' = A5 r:=⟨r,hr,rfl⟩;show (if h:∃r', r' < 18446744073709551616/\A5 r' = A5 r then some (C2 h.choose) else none)=_;rw [dif_pos hex];have hc:=hex.choose_spec;rw [text_inj hc.1 hr hc.2],fun r hr=>⟨r,hr,rfl⟩⟩
theorem envW {w:World} {s:ByteArray} (hN:Nums w) (hP:Par w) (hF:Flo w):Env rpW w s:=⟨hN,fun W hb t ht=>by
 obtain ⟨r,hr,e⟩:=ht;subst e;rw [rpW_ok.reads r hr];exact parse_text hr (s:=⟨(A5 r).toArray⟩) rfl (hP.below hb) (hF.below hb)⟩
theorem bytes_to (a:Option Addr) (n c l:Nat) (h:l<=c) (W:World):(Instr.slice 27 (.slice a n c) none (some (.int .i64 (l:Int))) none).run Tryz.prog W=.ok (sliced a 0 l c 1) W:=by
 have hz:(sizeOf (Tryz.prog.elem 27)).run Tryz.prog W=.ok 1 W:=by kernel_rfl
 rw [run_slice_h W _ _ _ _ (by kernel_rfl) _ _ (by omega) (by omega),hz];rfl
theorem bits_bits (r:Nat):Bb (Bb r)=Bb r:=by
 by_cases h:nanB r=true
 · have e:Bb r=9221120237041090561:=by unfold Bb;rw [if_pos h]
   rw [e];decide +kernel
 · have e:Bb r=r:=by unfold Bb;rw [if_neg h]
   rw [e,e]
theorem norm_norm (v:V):v.norm.norm=v.norm:=by
 induction v using V.ind with
 | h v ih=>
   obtain ⟨k,t,i,r,f,l⟩:=v;rw [Gb,Gb,bits_bits,List.map_map];congr 1;exact List.map_congr_left fun x hx=>ih x hx
theorem norm_count (v:V):v.norm.count=v.count:=by
 induction v using V.ind with
 | h v ih=>
   obtain ⟨k,t,i,r,f,l⟩:=v;rw [Gb];simp only [V.count];congr 1;have key:∀l:List V,(∀x∈l,x.norm.count=x.count)->V.countL (l.map V.norm)=V.countL l:=by
     intro l;induction l with
     | nil=>intro _;rfl
     | cons x l ihl=>
       intro h;rw [List.map_cons];simp only [V.countL];rw [h x (List.mem_cons_self ..),ihl fun y hy=>h y (List.mem_cons_of_mem _ hy)]
   exact key l ih
end Go.Proofs.YtagkgfniihiinaaGreatDoor
namespace Go.Proofs.YtagkgfniihiinaaGreatDoor
open Go.ChangeShapes Go.WideShapes Go.ChangeAt Go.RowKit Go.Deep
section
variable {H:Type} {enc:TypeId × Value->H} {P:Program} {w:World}
theorem trodAll_below {W W' : World} (hl:laidOutB P=true) (hb:Below W.heap.size W W'):∀{ts:List TypeId} {vs:List Value} {ds:List (DataW H)} {ps:List MemPlace},
   (ts.all fun t=>P.readableRec t && decide (t<P.types.size))=true->DataW.TrodAll enc P W 0 (fun _=>true) true ts vs ds ps->DataW.TrodAll enc P W' 0 (fun b=>decide (b<W.heap.size)) true ts vs ds ps
 | [],vs,ds,ps,_,h=>by
   obtain ⟨rfl,rfl,rfl⟩:=trodAll_nil h;exact trodAll_mk0
 | t :: ts,vs,ds,ps,hts,h=>by
   obtain ⟨v,vs', d,ds', p,q,rfl,rfl,rfl,h1,h2⟩:=trodAll_cons h;simp only [List.all_cons,Bool.and_eq_true,decide_eq_true_eq] at hts;refine trodAll_cons_mk (Below.trod hl hts.1.1 hts.1.2 h1 hb ?_) (trodAll_below hl hb (by simpa using hts.2) h2);obtain ⟨m,hm⟩:=h1;exact DataW.trod_lt m _ _ _ hm
theorem exists_list {α:Type} {R:Nat->α->Prop}:∀(n:Nat),(∀i,i<n->∃x,R i x)->∃l:List α,l.length=n/\∀i (h:i<l.length),R i l[i]
 | 0,_=>⟨[],rfl,fun i h=>by simp at h⟩
 | n+1,h=>by
   obtain ⟨l,hl,hr⟩:=exists_list n (fun i hi=>h i (by omega));obtain ⟨x,hx⟩:=h n (by omega);refine ⟨l++[x],by simp [hl],fun i hi=>?_⟩;by_cases hn:i<l.length
   · rw [List.getElem_append_left hn];exact hr i hn
   · simp at hi
     have:i=l.length:=by omega
     subst this;rw [List.getElem_append_right (by omega)];simpa [hl] using hx
theorem add_plain {ad:Addr} {v:Value} (h:w.cell? (ad.add 0)=some v):∃b o,ad=⟨b,o,none⟩:=by
 cases ad with
 | mk b o s=>
   cases s with
   | none=>exact ⟨b,o,rfl⟩
   | some s=>
     simp [Addr.add,World.cell?] at h;split at h<;>simp at h
theorem add_mk (b o j:Nat):(⟨b,o,none⟩:Addr).add j=⟨b,o+j,none⟩:=by
 unfold Addr.add;split
 · rename_i h;simp [h]
 · rfl
end
end Go.Proofs.YtagkgfniihiinaaGreatDoor
namespace Go.Proofs.YtagkgfniihiinaaGreatDoor
open Go.ChangeShapes Go.WideShapes Go.ChangeAt Go.RowKit
theorem star_errT : "*" ++ "errors.errorString" = "*errors.errorString" := by decide
theorem row_errT (u : TypeId) (h : Tryz.prog.typeName? 3 u = some "*errors.errorString") : u = 246 :=
 typeName_ptr_named (nm := "errors.errorString") (by rw [star_errT]; kernel_rfl) (by kernel_rfl) (by decide) u (by rw [star_errT]; exact h)
theorem glob_rngT : Tryz.prog.globalNamed "strconv.ErrRange" = some 4 := by kernel_rfl
theorem rng_of {W:World} {laid:List (String × DataW Unit)} (h0:laidMetH Tryz.prog laid W) (hp:(laid.all fun x=>x.2.handleName?.isNone)=true)
   (e3 : laid.filter (fun x => x.1 == "strconv.ErrRange") = [("strconv.ErrRange", .iface "*errors.errorString" (.ptr (.agg [.lit (.string [118, 97, 108, 117, 101, 32, 111, 117, 116, 32, 111, 102, 32, 114, 97, 110, 103, 101])])))]) : Rng W := by
 rw [MakeChecks.laidMetH_plain _ _ _ hp] at h0
 have h3 := h0.filter (fun x => x.1 == "strconv.ErrRange")
 rw [e3] at h3
 obtain ⟨a,s,hv,_⟩:=laid_sentinel (g:=4) (ti:=106) (tp:=246) (te:=248) h3 glob_rngT (by kernel_rfl) Tryz.underlying106 row_errT Tryz.underlying246 Tryz.underlying248 rfl rfl Tryz.underlying9 (by kernel_rfl) (by kernel_rfl)
 exact ⟨_,_,(World.var?_cell glob_rngT hv 0).trans rfl⟩
end Go.Proofs.YtagkgfniihiinaaGreatDoor
namespace Go.Proofs.YtagkgfniihiinaaGreatDoor
open Go.RowKit Go.Joins
def Byts (w:World) (a:Option Addr) (s:ByteArray):Prop:=s.size=0\/∃b o,a=some ⟨b,o,none⟩/\Lib.Bytes w b o s
theorem Byts.below {w w' : World} {a:Option Addr} {s:ByteArray} (h:Byts w a s) (hb:Below w.heap.size w w'):Byts w' a s:=by
 rcases h with h | ⟨b,o,h1,h2⟩
 · exact .inl h
 · exact .inr ⟨b,o,h1,fun i hi=>Aa hb _ _ (h2 i hi)⟩
theorem Byts.src {w:World} {a:Option Addr} {s:ByteArray} {c:Nat} (h:Byts w a s):Src Tryz.prog 1 27 (.slice a s.size c) s.size (Lib.strCells s) w:=by
 rcases h with h0 | ⟨b,o,rfl,h2⟩
 · have e:Lib.strCells s=[]:=List.length_eq_zero_iff.1 (by rw [Lib.strCells_length];exact h0)
   rw [e,h0];cases a with
   | none=>exact Src.ofNil _ Tryz.underlying27 c
   | some ad=>exact Src.ofSlice _ Tryz.underlying27 ad 0 c [] rfl (fun j u hj=>by cases hj) (fun u hu=>by cases hu)
 · refine Src.ofSlice _ Tryz.underlying27 ⟨b,o,none⟩ s.size c _ (by rw [Lib.strCells_length,Nat.mul_one]) (fun j u hj=>?_) (Lib.strCells_oneCell s)
   have hjl:j<s.size:=by
     have:=(List.getElem?_eq_some_iff.1 hj).1;rwa [Lib.strCells_length] at this
   rw [add_zr,h2 j hjl,<-hj,cells_at s j hjl]
theorem Row.byts {B:Nat} {w:World} {v:Value} {s:ByteArray} (h:Row B w v s) (h0:0<s.size):∃g c,v=.slice (some ⟨g,0,none⟩) s.size c/\s.size<=c/\g<w.heap.size/\Lib.Bytes w g 0 s:=by
 obtain ⟨ad,cap,hv,hl,hc⟩:=Reads.of_owns h.own;rcases h.own.2 with h2 | ⟨g,ca,cur,hg,_,hblk,hle,_⟩
 · omega
 rw [hg] at hv;cases hv
 have hB:Lib.Bytes w g 0 s:=fun i hi=>by
   obtain ⟨b', o', ha', hc'⟩:=hc i _ (cells_at s i hi);cases ha'
   exact hc'
 exact ⟨g,_,hg,hle,World.block_lt_of_cell? _ _ (hB 0 h0),hB⟩
theorem parse_begin {rp:Rp} {w:World} {g c m:Nat} {s:ByteArray} (hB:Lib.Bytes w g 0 s) (hg:g<w.heap.size) (hc:s.size<=c) (hm:m<=s.size) (hbig:s.size<=1000000000) (hE:Env rp w (s.extract 0 m)) (hnd:Cy rp 8 1 (s.data.toList.take m)) :
   Calls Tryz.prog 24 #[.slice (some ⟨g,0,none⟩) m c] w (ParseQ (A4 rp 8 1 (s.data.toList.take m)) w):=by
 have e:(s.extract 0 m).data.toList=s.data.toList.take m:=by
   rw [ByteArray.data_extract,Array.toList_extract,List.extract_eq_take_drop,List.drop_zero,Nat.sub_zero]
 have hz:(s.extract 0 m).size=m:=by rw [ByteArray.size_extract];omega
 rw [<-e] at hnd ⊢
 refine R2.parse_any (fun i hi=>?_) hz (by omega) (by omega) hE hg hnd
 rw [hB i (by omega)]
 congr 3
 exact congrArg UInt8.toNat (by rw [ByteArray.getElem_extract];simp)
theorem slice_begin (g c m:Nat) (hm:0<m\/0<c):sliced (some ⟨g,0,none⟩) 0 m c 1=.slice (some ⟨g,0,none⟩) m c:=by
 unfold sliced;have:(some (⟨g,0,none⟩:Addr)).map (·.add (0 * 1))=some ⟨g,0,none⟩:=by rw [Option.map_some,Nat.zero_mul,add_zr,Nat.add_zero]
 rw [this,Nat.sub_zero,Nat.sub_zero];split<;>rfl
theorem open_bytes {H:Type} {enc:TypeId × Value->H} {w:World} {fuel:Nat} {a:Option Addr} {n cap:Nat} {x:DataW H × List MemPlace} (h:DataW.trod enc Tryz.prog w 0 (fun _=>true) true fuel 27 [.slice a n cap]=some x) :
   n<=maxLen/\∃s:ByteArray,s.size=n/\Byts w a s:=by
 rcases Go.Deep.open_slice Tryz.underlying27 h with h0 | ⟨ad,len', cap', m,k,D,Pl,hcs,hb,hl,hm,hmm,hx,hi⟩
 · obtain ⟨h0,_⟩:=h0
   simp at h0;obtain ⟨rfl,rfl,rfl⟩:=h0;exact ⟨Nat.zero_le _,⟨#[]⟩,rfl,.inl rfl⟩
 · simp at hcs
   obtain ⟨rfl,rfl,rfl⟩:=hcs;simp at hmm;subst hmm;refine ⟨Nat.le_trans hl hm,?_⟩;have hC:Tryz.prog.cellsOf 5=1:=by kernel_rfl
   obtain ⟨xs,hxl,hxr⟩:=exists_list (R:=fun i (c:UInt8)=>w.cell? (ad.add i)=some (.int .u8 (c.toNat:Int))) n (fun i him=>by
     obtain ⟨cs', hc,ht'⟩:=hi i (by omega);obtain ⟨z,rfl,_,hz⟩:=DataW.trod_int Tryz.underlying5 ht';rw [hC] at hc;obtain ⟨_,hcl,hat⟩:=World.cells?_some hc;have h0:=hat 0 (by omega);have hz2:0<=z/\z<=255:=by
       have h1:(decide (IntKind.u8.min<=z) && decide (z<=IntKind.u8.max))=true:=hz;rw [Bool.and_eq_true,decide_eq_true_eq,decide_eq_true_eq] at h1;exact h1
     refine ⟨UInt8.ofNat z.toNat,?_⟩;have e:((UInt8.ofNat z.toNat).toNat:Int)=z:=by
       rw [UInt8.toNat_ofNat'];omega
     rw [e];simpa [Addr.add] using h0)
   refine ⟨⟨xs.toArray⟩,by rw [<-hxl];exact Aw _,?_⟩;rcases Nat.eq_zero_or_pos n with h0 | h0
   · exact .inl (by rw [Aw];show xs.length=0;omega)
   · obtain ⟨b,o,rfl⟩:=add_plain (hxr 0 (by omega))
     refine .inr ⟨b,o,rfl,fun i hi=>?_⟩;have hil:i<xs.length:=by rw [Aw] at hi;exact hi
     have:=hxr i hil;rw [add_mk] at this;rw [this];rfl
end Go.Proofs.YtagkgfniihiinaaGreatDoor
namespace Go.Proofs.YtagkgfniihiinaaGreatDoor
open Go.ChangeShapes Go.WideShapes Go.ChangeAt Go.RowKit
theorem star_err : "*" ++ "errors.errorString" = "*errors.errorString" := by decide
theorem row_err (u : TypeId) (h : Tryz.prog.typeName? 3 u = some "*errors.errorString") : u = 246 :=
 typeName_ptr_named (nm := "errors.errorString") (by rw [star_err]; kernel_rfl) (by kernel_rfl) (by decide) u (by rw [star_err]; exact h)
theorem nums_of {W:World} {laid:List (String × DataW Unit)} (h0:laidMetH Tryz.prog laid W) (hp:(laid.all fun x=>x.2.handleName?.isNone)=true)
   (e1 : laid.filter (fun x => x.1 == "internal/strconv.uint64pow10") = [("internal/strconv.uint64pow10", Lib.tabData .u64 Lib.pow10Tab)])
   (e2 : laid.filter (fun x => x.1 == "strconv.ErrSyntax") = [("strconv.ErrSyntax", .iface "*errors.errorString" (.ptr (.agg [.lit (.string [105, 110, 118, 97, 108, 105, 100, 32, 115, 121, 110, 116, 97, 120])])))])
   (e3 : laid.filter (fun x => x.1 == "strconv.ErrRange") = [("strconv.ErrRange", .iface "*errors.errorString" (.ptr (.agg [.lit (.string [118, 97, 108, 117, 101, 32, 111, 117, 116, 32, 111, 102, 32, 114, 97, 110, 103, 101])])))]) : Nums W := by
 rw [MakeChecks.laidMetH_plain _ _ _ hp] at h0
 have h1 := h0.filter (fun x => x.1 == "internal/strconv.uint64pow10")
 have h2 := h0.filter (fun x => x.1 == "strconv.ErrSyntax")
 have h3 := h0.filter (fun x => x.1 == "strconv.ErrRange")
 rw [e1] at h1
 rw [e2] at h2
 rw [e3] at h3
 refine ⟨Lib.tabIs_of_head (g:=5) (t:=223) (e:=60) (n:=20) (by kernel_rfl) (by kernel_rfl) Tryz.underlying223 Tryz.underlying60 (by kernel_rfl) (by kernel_rfl) h1,?_,?_⟩
 · obtain ⟨a,s,hv,_⟩:=laid_sentinel (g:=3) (ti:=106) (tp:=246) (te:=248) h2 glob_syn (by kernel_rfl) Tryz.underlying106 row_err Tryz.underlying246 Tryz.underlying248 rfl rfl Tryz.underlying9 (by kernel_rfl) (by kernel_rfl)
   exact ⟨_,_,hv⟩
 · obtain ⟨a,s,hv,_⟩:=laid_sentinel (g:=4) (ti:=106) (tp:=246) (te:=248) h3 glob_rng (by kernel_rfl) Tryz.underlying106 row_err Tryz.underlying246 Tryz.underlying248 rfl rfl Tryz.underlying9 (by kernel_rfl) (by kernel_rfl)
   exact ⟨_,_,hv⟩
theorem floF_of {W:World} {laid:List (String × DataW Unit)} (h0:laidMetH Tryz.prog laid W) (hp:(laid.all fun x=>x.2.handleName?.isNone)=true)
   (e1 : laid.filter (fun x => x.1 == "internal/strconv.uint64pow10") = [("internal/strconv.uint64pow10", Lib.tabData .u64 Lib.pow10Tab)])
   (e2 : laid.filter (fun x => x.1 == "internal/strconv.pow10Tab") = [("internal/strconv.pow10Tab", Go.Pinned.pow10Tab)]) : Flo W := by
 rw [MakeChecks.laidMetH_plain _ _ _ hp] at h0
 have h1 := h0.filter (fun x => x.1 == "internal/strconv.uint64pow10")
 have h2 := h0.filter (fun x => x.1 == "internal/strconv.pow10Tab")
 rw [e1] at h1
 rw [e2] at h2
 exact ⟨pows_of h2,Lib.tabIs_of_head (g:=5) (t:=223) (e:=60) (n:=20) (by kernel_rfl) (by kernel_rfl) Tryz.underlying223 Tryz.underlying60 (by kernel_rfl) (by kernel_rfl) h1⟩
end Go.Proofs.YtagkgfniihiinaaGreatDoor
namespace Go.Proofs.YtagkgfniihiinaaGreatDoor
open Go.ChangeShapes Go.WideShapes Go.ChangeAt Go.RowKit Go.Deep
theorem trod_float' {H:Type} {enc:TypeId × Value->H} {P:Program} {w:World} {base:Nat} {spare:Nat->Bool} {held:Bool} {fuel:Nat} {t:TypeId} {cs:List Value} {x:DataW H × List MemPlace} {k:FloatKind} (ht:P.underlying t=some (.float k))
   (h:DataW.trod enc P w base spare held fuel t cs=some x):∃b,cs=[.float k b]:=by
 cases fuel with
 | zero=>simp [DataW.trod] at h
 | succ n=>
   unfold DataW.trod at h;rw [ht] at h;split at h<;>simp_all
theorem six_of {cs:List Value} (h:cs.length=6):∃a b c d e f,cs=[a,b,c,d,e,f]:=by
 match cs,h with
 | [a,b,c,d,e,f],_=>exact ⟨a,b,c,d,e,f,rfl⟩
theorem sizedL_of {l:List V} (h:∀x∈l,x.sized):V.sizedL l:=by
 induction l with
 | nil=>trivial
 | cons y l ih=>exact ⟨h y (by simp),ih fun x hx=>h x (by simp [hx])⟩
theorem trod_floatW {H:Type} {enc:TypeId × Value->H} {P:Program} {w:World} {base:Nat} {spare:Nat->Bool} {held:Bool} {fuel:Nat} {t:TypeId} {cs:List Value} {x:DataW H × List MemPlace} (ht:P.underlying t=some (.float .f64))
   (h:DataW.trod enc P w base spare held fuel t cs=some x):∃b,cs=[.float .f64 b]/\b<18446744073709551616:=by
 obtain ⟨b,rfl⟩:=trod_float' ht h
 refine ⟨b,rfl,?_⟩
 cases fuel with
 | zero=>simp [DataW.trod] at h
 | succ n=>
   unfold DataW.trod at h;simp only [ht,Lit.wf,true_and,decide_eq_true_eq] at h;split at h
   · assumption
   · cases h
set_option maxHeartbeats 1600000 in
theorem open_valueG {H:Type} {enc:TypeId × Value->H} {w:World}:∀(fuel:Nat) (cs:List Value) (x:DataW H × List MemPlace),DataW.trod enc Tryz.prog w 0 (fun _=>true) true fuel 26 cs=some x ->
   ∃(v:V) (a:Option Addr) (cap:Nat),cs=Ai v.kind v.text v.int v.real v.flag a v.list.length cap/\RV w.cell? cs v/\v.sized/\v.ranged:=by
 intro fuel
 induction fuel using Nat.strongRecOn with
 | ind fuel ih=>
 intro cs x h
 obtain ⟨xs,n,rfl,hx,hlen,hxl,hf⟩:=DataW.trod_struct Tryz.underlying26 h
 have hC:Tryz.prog.cellsOf 26=6:=by kernel_rfl
 rw [hC] at hlen
 obtain ⟨c0,c1,c2,c3,c4,c5,rfl⟩:=six_of hlen
 have g:∀i (hi:i<xs.length),xs[i]?=some xs[i]:=fun i hi=>List.getElem?_eq_getElem hi
 have hx6:xs.length=6:=hxl
 have key:∀(i:Nat) (f:Field) (c:Value),_->Tryz.prog.cellsOf f.type=1->(([c0,c1,c2,c3,c4,c5]:List Value).drop f.offset).take 1=[c]->DataW.trod enc Tryz.prog w 0 (fun _=>true) true n f.type [c]=xs[i]?:=fun i f c h1 h2 h3=>by
   have:=hf i f h1;rw [h2,h3] at this;exact this
 have f0:DataW.trod enc Tryz.prog w 0 (fun _=>true) true n 3 [c0]=some xs[0]:=(key 0 _ c0 rfl (by kernel_rfl) rfl).trans (g 0 (by omega))
 have f1:DataW.trod enc Tryz.prog w 0 (fun _=>true) true n 9 [c1]=some xs[1]:=(key 1 _ c1 rfl (by kernel_rfl) rfl).trans (g 1 (by omega))
 have f2:DataW.trod enc Tryz.prog w 0 (fun _=>true) true n 2 [c2]=some xs[2]:=(key 2 _ c2 rfl (by kernel_rfl) rfl).trans (g 2 (by omega))
 have f3:DataW.trod enc Tryz.prog w 0 (fun _=>true) true n 23 [c3]=some xs[3]:=(key 3 _ c3 rfl (by kernel_rfl) rfl).trans (g 3 (by omega))
 have f4:DataW.trod enc Tryz.prog w 0 (fun _=>true) true n 4 [c4]=some xs[4]:=(key 4 _ c4 rfl (by kernel_rfl) rfl).trans (g 4 (by omega))
 have f5:DataW.trod enc Tryz.prog w 0 (fun _=>true) true n 24 [c5]=some xs[5]:=(key 5 _ c5 rfl (by kernel_rfl) rfl).trans (g 5 (by omega))
 obtain ⟨k,e0,_⟩:=DataW.trod_int Tryz.underlying3 f0
 obtain ⟨t,e1,_,htm⟩:=DataW.trod_string Tryz.underlying9 f1
 have htm:t.size<=9223372036854775807:=htm
 obtain ⟨i,e2,_,e2w⟩:=DataW.trod_int Tryz.underlying2 f2
 have hi64:-9223372036854775808<=i/\i<=9223372036854775807:=by
   rw [Lit.wf,Bool.and_eq_true,decide_eq_true_eq,decide_eq_true_eq] at e2w;exact e2w
 obtain ⟨r,e3,hr64⟩:=trod_floatW Tryz.underlying23 f3
 obtain ⟨b,e4,_⟩:=DataW.trod_bool Tryz.underlying4 f4
 simp only [List.cons.injEq,and_true] at e0 e1 e2 e3 e4
 subst e0;subst e1;subst e2;subst e3;subst e4
 rcases DataW.trod_slice Tryz.underlying24 f5 with ⟨e5,_⟩ | ⟨ad,len,cap,elems,rest,m,rfl,e5,_,_,hlc,_,hel,hi,_⟩
 · simp only [List.cons.injEq,and_true] at e5
   subst e5;exact ⟨.mk k t i r b [],none,0,rfl,RV.leaf _ _ _ _ _ _ _ _,(V.sized_eq _).2 ⟨htm,trivial⟩,(V.ranged_eq _).2 ⟨hi64.1,hi64.2,hr64,trivial⟩⟩
 · simp only [List.cons.injEq,and_true] at e5
   subst e5;rw [hC] at hi;obtain ⟨ps,hpl,hpr⟩:=exists_list (R:=fun j (p:List Value × V)=>w.cells? 0 (ad.add (j * 6)) 6=some p.1/\RV w.cell? p.1 p.2/\p.2.sized/\p.2.ranged) len (fun j hj=>by
     have h1:=hi j hj;rw [List.getElem?_eq_getElem (by omega)] at h1;obtain ⟨cs', h2,h3⟩:=Option.bind_eq_some_iff.1 h1;obtain ⟨v,_,_,_,hv,hvs⟩:=ih m (by omega) cs' _ h3;exact ⟨(cs', v),h2,hv,hvs⟩)
   refine ⟨.mk k t i r b (ps.map (·.2)),some ad,cap,by simp [Ai,V.kind,V.text,V.int,V.real,V.flag,V.list,hpl],RV.mk k t i r b (some ad) len cap (ps.map (·.2)) (ps.map (·.1)) (by simp [hpl]) (by simp) (fun j x hx=>?_) (fun j x y hx hy=>?_),(V.sized_eq _).2 ⟨htm,sizedL_of fun x hx=>?_⟩,(V.ranged_eq _).2 ⟨hi64.1,hi64.2,hr64,rangedL_of fun x hx=>?_⟩⟩
   · obtain ⟨p,hp,rfl⟩:=List.mem_map.1 (List.mem_of_getElem? hx)
     rw [List.getElem?_map] at hx;obtain ⟨p', hp', hpe⟩:=Option.map_eq_some_iff.1 hx;obtain ⟨hjl,rfl⟩:=List.getElem?_eq_some_iff.1 hp';obtain ⟨_,h6,hat⟩:=World.cells?_some (hpr j hjl).1;have h60:=hpr 0 (by omega);obtain ⟨_,h60', hat0⟩:=World.cells?_some h60.1;have e0:w.cell? (ad.add 0)=some (ps[0].1[0]'(by omega)):=by
       have:=hat0 0 (by omega);rw [List.getElem?_eq_getElem (by omega)] at this;simpa [Addr.add] using this
     obtain ⟨b0,o0,rfl⟩:=add_plain e0;refine ⟨b0,o0,rfl,fun q u hu=>?_⟩;rw [<-hpe] at hu;have hq:q<6:=by have:=(List.getElem?_eq_some_iff.1 hu).1;omega
     have:=hat q hq;rw [add_mk,add_mk,hu] at this;exact this
   · rw [List.getElem?_map] at hx hy
     obtain ⟨p,hp,rfl⟩:=Option.map_eq_some_iff.1 hx;rw [hp] at hy;simp at hy;subst hy;obtain ⟨hjl,rfl⟩:=List.getElem?_eq_some_iff.1 hp;exact (hpr j hjl).2.1
   · obtain ⟨p,hp,rfl⟩:=List.mem_map.1 hx
     obtain ⟨j,hjl,rfl⟩:=List.getElem_of_mem hp;exact (hpr j hjl).2.2.1
   · obtain ⟨p,hp,rfl⟩:=List.mem_map.1 hx
     obtain ⟨j,hjl,rfl⟩:=List.getElem_of_mem hp;exact (hpr j hjl).2.2.2
end Go.Proofs.YtagkgfniihiinaaGreatDoor
namespace Go.Proofs.YtagkgfniihiinaaGreatDoor
open Go.RowKit Go.Joins
def waR (i:Nat) (w w' : World):Prop:=match i with | 11 | 26 | 27=>Below w.heap.size w w' | _=>w' = w
theorem zero_rv (c:Addr->Option Value):RV c (Ai 0 ⟨#[]⟩ 0 0 false none 0 0) (.mk 0 ⟨#[]⟩ 0 0 false []):=RV.leaf c 0 ⟨#[]⟩ 0 0 false none 0
theorem same_zero (w:World):Calls Tryz.prog 19 #[.agg #[.int .i64 0,.string ⟨#[]⟩,.int .i64 0,.float .f64 0,.bool false,.slice none 0 0],.agg #[.int .i64 0,.string ⟨#[]⟩,.int .i64 0,.float .f64 0,.bool false,.slice none 0 0]] w fun e w' => e=.returned (.bool true)/\Below w.heap.size w w' := by
 refine (same03_any (.mk 0 ⟨#[]⟩ 0 0 false []) (.mk 0 ⟨#[]⟩ 0 0 false []) none 0 0 none 0 0 w (zero_rv _) (zero_rv _) (by decide)).mono ?_;rintro e w' ⟨q,rfl,hq,hb⟩;obtain rfl:q=true:=hq.2 rfl;exact ⟨rfl,hb⟩
namespace R2
set_option maxRecDepth 100000 in
set_option maxHeartbeats 6400000 in
theorem waitsL_any (u:V) (ad:Option Addr) (cap:Nat) (p:Int) (am:Option Addr) (sm:ByteArray) (cm:Nat) (w:World) (hu:RV w.cell? (Ai u.kind u.text u.int u.real u.flag ad u.list.length cap) u) (su:u.sized) (ru:u.ranged) (hm:Byts w am sm) (hN:Nums w) (hF:Flo w) (hP:Par w) (hR:Rng w) :
   Calls Tryz.prog 12 #[.agg #[.int .i64 u.kind,.string u.text,.int .i64 u.int,.float .f64 u.real,.bool u.flag,.slice ad u.list.length cap],.int .i64 p,.slice am sm.size cm] w
     fun e w' => e=.returned (.bool true)/\Below w.heap.size w w' := by
 obtain ⟨nm,hnm⟩:∃n,n=sm.size:=⟨_,rfl⟩
 rw [<-hnm]
 obtain ⟨W2,hW2⟩:∃W2,W2=w.alloc (.cells #[.int .i64 u.kind,.string u.text,.int .i64 u.int,.float .f64 u.real,.bool u.flag,.slice ad u.list.length cap] 26):=⟨_,rfl⟩
 have hb0:Below w.heap.size w W2:=by rw [hW2];exact (Below.refl _ _).alloc (Nat.le_refl _) _
 obtain ⟨bu,ebu⟩:∃bu,bu=w.heap.size:=⟨_,rfl⟩
 have hru:W2.rangeAt bu 0 [.int .i64 u.kind,.string u.text,.int .i64 u.int,.float .f64 u.real,.bool u.flag,.slice ad u.list.length cap]:=by
   rw [hW2,ebu];intro q x hq;rw [Nat.zero_add,World.cell?_alloc_new];simpa using hq
 replace hu:=hu.mono (Aa hb0)
 replace hm:=hm.below hb0
 have hL:LaidV W2.heap.size W2:=((LaidV.of hN hF).below hb0 (Nat.le_refl _)).mono hb0.size
 have hN2:Nums W2:=hN.below hb0
 have hF2:Flo W2:=hF.below hb0
 have hP2:Par W2:=hP.below hb0
 have hR2:Rng W2:=hR.below hb0
 have hal:=alive05_any (w:=W2) hN2
 have hbq:=hb0
 replace hbq:=Hd hbq
 replace hnm:=Hd hnm
 replace hm:=Hd hm
 replace hu:=Hd hu
 replace hru:=Hd hru
 replace hL:=Hd hL
 replace hN2:=Hd hN2
 replace hF2:=Hd hF2
 replace hP2:=Hd hP2
 replace hR2:=Hd hR2
 replace hb0:=Hd hb0
 replace hW2:=Hd hW2
 replace hal:=Hd hal
 replace ru:=Hd ru
 replace su:=Hd su
 clear hN hF hP hR
 go_enter Tryz.func12,Tryz.ntmps12
 go_wp2_with fail
 rw [<-hW2.out,<-ebu]
 replace ebu:=Hd ebu
 refine hal.out.mono ?_
 rintro e w1 ⟨rfl,hb1⟩
 clear hal
 have p01:_:=Af hb1 hru.out 0 (.int .i64 u.kind) rfl
 have p11:_:=Af hb1 hru.out 1 (.string u.text) rfl
 have p21:_:=Af hb1 hru.out 2 (.int .i64 u.int) rfl
 have p31:_:=Af hb1 hru.out 3 (.float .f64 u.real) rfl
 have p41:_:=Af hb1 hru.out 4 (.bool u.flag) rfl
 have p51:_:=Af hb1 hru.out 5 (.slice ad u.list.length cap) rfl
 rw [Nat.zero_add] at p01 p11 p21 p31 p41 p51
 have hu1:=hu.out.mono (Aa hb1)
 replace hu1:=Hd hu1
 go_wp2_with fail
 refine (small_any hu1.out).mono ?_
 rintro e w2 ⟨b1,rfl,k1,hb2⟩
 replace hb2:=hb1.trans (hb2.mono hb1.size)
 clear p01 p11 p21 p31 p41 p51
 clear hu1
 cases b1 with
 | false=>
   clear hbq;have hbq:=hb2;replace hbq:=Hd hb2;go_wp2_with fail
   go_ret;exact ⟨rfl,hb0.out.trans (hbq.out.mono hb0.out.size)⟩
 | true=>
 have cu:=(k1 rfl).1
 clear k1 hb1
 have p02:_:=Af hb2 hru.out 0 (.int .i64 u.kind) rfl
 have p12:_:=Af hb2 hru.out 1 (.string u.text) rfl
 have p22:_:=Af hb2 hru.out 2 (.int .i64 u.int) rfl
 have p32:_:=Af hb2 hru.out 3 (.float .f64 u.real) rfl
 have p42:_:=Af hb2 hru.out 4 (.bool u.flag) rfl
 have p52:_:=Af hb2 hru.out 5 (.slice ad u.list.length cap) rfl
 rw [Nat.zero_add] at p02 p12 p22 p32 p42 p52
 have hu2:=hu.out.mono (Aa hb2)
 replace hu2:=Hd hu2
 go_wp2_with fail
 refine (rright_any u ad cap w2 hu2.out su.out (by omega)).mono ?_
 rintro e w3 ⟨rfl,hb3⟩
 replace hb3:=hb2.trans (hb3.mono hb2.size)
 clear p02 p12 p22 p32 p42 p52
 clear hu2 hb2
 obtain ⟨r1,hr1⟩:∃r1,r1=E3 u:=⟨_,rfl⟩
 rw [<-hr1]
 cases r1 with
 | false=>
   replace hbq:=Hd hb3;go_wp2_with fail
   go_ret;exact ⟨rfl,hb0.out.trans (hbq.out.mono hb0.out.size)⟩
 | true=>
 have fu:=checkZ_fine hr1.symm
 clear hr1 cu
 by_cases h100:100<nm
 · have h100i:(100:Int)<(nm:Int):=by omega
   replace hbq:=Hd hb3;go_wp2_with fail
   go_ret;exact ⟨rfl,hb0.out.trans (hbq.out.mono hb0.out.size)⟩
 have h100i:¬(100:Int)<(nm:Int):=by omega
 have hall:∀wx,Below W2.heap.size W2 wx->RV wx.cell? (Ai u.kind u.text u.int u.real u.flag ad u.list.length cap) u/\LaidV wx.heap.size wx/\Par wx/\Rng wx/\∀s,Env rpW wx s:=fun wx h=>
   ⟨hu.out.mono (Aa h),(hL.out.below h (Nat.le_refl _)).mono h.size,hP2.out.below h,hR2.out.below h,fun s=>envW (hN2.out.below h) (hP2.out.below h) (hF2.out.below h)⟩
 have hok:=down_ok u 8 fu.1 ru.out
 obtain ⟨D,hD⟩:∃D,D=u.down:=⟨_,rfl⟩
 have hDD:D.down=D:=by rw [hD];exact V.down_down u
 have cD:D.count=u.count:=by rw [hD];exact hok.count
 have fD:D.fine 8=true:=by rw [hD];exact hok.fine
 have rD:D.ranged:=by rw [hD];exact hok.ranged
 have cu:=fu.2
 replace fu:=fu.1
 obtain ⟨X,hX⟩:∃X:ByteArray,X=⟨u.wire.toArray⟩:=⟨_,rfl⟩
 have hXl:X.data.toList=u.wire:=by rw [hX]
 have hXz:X.size=u.wire.length:=by rw [Aw,hXl]
 have hwl:=wire_len u 8 fu ru.out (by omega)
 have hX0:0<X.size:=by omega
 replace hall:=Hd hall
 replace hok:=Hd hok
 replace fu:=Hd fu
 replace fD:=Hd fD
 replace rD:=Hd rD
 replace hD:=Hd hD
 replace hDD:=Hd hDD
 replace hX:=Hd hX
 replace hXl:=Hd hXl
 replace hXz:=Hd hXz
 replace hwl:=Hd hwl
 have p03:_:=Af hb3 hru.out 0 (.int .i64 u.kind) rfl
 have p13:_:=Af hb3 hru.out 1 (.string u.text) rfl
 have p23:_:=Af hb3 hru.out 2 (.int .i64 u.int) rfl
 have p33:_:=Af hb3 hru.out 3 (.float .f64 u.real) rfl
 have p43:_:=Af hb3 hru.out 4 (.bool u.flag) rfl
 have p53:_:=Af hb3 hru.out 5 (.slice ad u.list.length cap) rfl
 rw [Nat.zero_add] at p03 p13 p23 p33 p43 p53
 have hby:=bytes3_any u ad cap 8 w3 (hall.out w3 hb3).1 fu.out ru.out (by omega) (hall.out w3 hb3).2.1
 rw [<-hX.out] at hby
 replace hby:=Hd hby
 replace hb3:=Hd hb3
 go_wp2_with fail
 refine hby.out.mono ?_
 rintro e w4 ⟨b7,rfl,hR7,hb4⟩
 replace hb4:=hb3.out.trans (hb4.mono hb3.out.size)
 clear p03 p13 p23 p33 p43 p53
 clear hby hb3
 obtain ⟨g7,c7,rfl,hc7,hg7,hB7⟩:=hR7.byts hX0
 clear hR7
 by_cases h10:10000<X.size
 · have h10i:(10000:Int)<(X.size:Int):=by omega
   replace hbq:=Hd hb4;go_wp2_with fail
   go_ret;exact ⟨rfl,hb0.out.trans (hbq.out.mono hb0.out.size)⟩
 have h10i:¬(10000:Int)<(X.size:Int):=by omega
 obtain ⟨cb,hcb⟩:∃cb:Bool,cb=decide (0<=p/\p<(X.size:Int)):=⟨_,rfl⟩
 replace hcb:=Hd hcb
 replace hB7:=Hd hB7
 replace hb4:=Hd hb4
 go_upto_region 8 with fail
 go_cut [45] from 39 to 45 (fun s wx=>s=.bool cb/\wx=w4)
 case first=>
   by_cases h0p:0<=p
   · by_cases hpX:p<(X.size:Int)
     · obtain rfl:cb=true:=by rw [hcb.out];exact decide_eq_true ⟨h0p,hpX⟩
       go_wp2_with fail
       go_meet
       exact ⟨rfl,rfl⟩
     · obtain rfl:cb=false:=by rw [hcb.out];exact decide_eq_false (fun h=>hpX h.2)
       go_wp2_with fail
       go_meet
       exact ⟨rfl,rfl⟩
   · obtain rfl:cb=false:=by rw [hcb.out];exact decide_eq_false (fun h=>h0p h.1)
     go_wp2_with fail
     go_meet
     exact ⟨rfl,rfl⟩
 obtain ⟨rfl,hww⟩:=hcut
 obtain rfl:=hww.symm
 clear hww
 go_upto_if 45 with fail
 go_cut [8] from 8 to 65 (fun _ wx=>Below W2.heap.size W2 wx/\Lib.Bytes wx g7 0 X)
 case first=>
   cases cb with
   | false=>
     go_wp2_with fail
     go_meet
     exact ⟨hb4.out,hB7.out⟩
   | true=>
     obtain ⟨h0p,hpX⟩:0<=p/\p<(X.size:Int):=of_decide_eq_true hcb.out.symm;obtain ⟨m,rfl⟩:∃m:Nat,p=(m:Int):=⟨p.toNat,by omega⟩;clear hcb;have hmX:m<X.size:=by omega
     have hto:=bytes_to (some ⟨g7,0,none⟩) X.size c7 m (by omega);rw [slice_begin g7 c7 m (.inr (by omega))] at hto;obtain ⟨s1,s2⟩:=scan_wait rpW_ok u 8 1 (X.data.toList.take m) fu.out ru.out (fun _=>Nat.le_refl _) (by omega) ⟨X.data.toList.drop m,fun h=>by
       have h1:=congrArg List.length h;rw [List.length_drop,hXl.out,<-hXz.out] at h1;simp at h1;omega,by rw [List.take_append_drop,hXl.out]⟩
     have hps:=parse_begin (rp:=rpW) hB7.out hg7 hc7 (by omega) (by omega) ((hall.out w4 hb4.out).2.2.2.2 _) s2;rw [s1] at hps;clear s1 s2;replace hps:=Hd hps;go_wp2_with fail
     refine hps.out.mono ?_;rintro e w5 ⟨rfl,hb5⟩;have hb45:=hb5;replace hb5:=hb4.out.trans (hb5.mono hb4.out.size);clear hps hto;replace hb5:=Hd hb5;replace hb45:=Hd hb45;go_upto_region 10 with fail
     obtain ⟨BZ,hBZ⟩:∃B,B=w5.heap.size:=⟨_,rfl⟩;obtain ⟨w6,hw6⟩:∃W,W=w5.alloc (.cells #[.int .i64 0,.string ⟨#[]⟩,.int .i64 0,.float .f64 0,.bool false,.slice none 0 0] 26):=⟨_,rfl⟩;rw [<-hw6,<-hBZ];have hb56:Below w5.heap.size w5 w6:=by rw [hw6];exact (Below.refl _ _).alloc (Nat.le_refl _) _
     have hb6:=hb5.out.trans (hb56.mono hb5.out.size);have hb46:=hb45.out.trans (hb56.mono hb45.out.size);have hrg:w6.rangeAt BZ 0 [.int .i64 0,.string ⟨#[]⟩,.int .i64 0,.float .f64 0,.bool false,.slice none 0 0]:=by
       rw [hw6,hBZ];intro q x hq;rw [Nat.zero_add,World.cell?_alloc_new];simpa using hq
     have g0:=hrg 0 _ rfl;have g1:=hrg 1 _ rfl;have g2:=hrg 2 _ rfl;have g3:=hrg 3 _ rfl;have g4:=hrg 4 _ rfl;have g5:=hrg 5 _ rfl;rw [Nat.zero_add] at g0 g1 g2 g3 g4 g5;clear hrg hb56;replace hBZ:=Hd hBZ;replace hw6:=Hd hw6;replace hb6:=Hd hb6;replace hb46:=Hd hb46;go_wp2_with fail
     refine (same_zero w6).mono ?_;rintro e w7 ⟨rfl,hb7⟩;have hb47:=hb46.out.trans (hb7.mono hb46.out.size);replace hb7:=hb6.out.trans (hb7.mono hb6.out.size);clear g0 g1 g2 g3 g4 g5;replace hb7:=Hd hb7;replace hb47:=Hd hb47;go_wp2_with fail
     go_meet
     exact ⟨hb7.out,fun i hi=>Aa hb47.out _ _ (hB7.out i hi)⟩
 case rest=>
   rename World=>w5
   have hb5:Below W2.heap.size W2 w5:=hcut.1;have hB5:Lib.Bytes w5 g7 0 X:=hcut.2;clear hcut hcb hb4 hB7;have h25:W2.heap.size<=w5.heap.size:=hb5.size;replace h25:=Hd h25;have hbuf:Buf w5.heap.size (w5.alloc (.cells #[] 5)) (.slice (some ⟨w5.heap.size,0,none⟩) 0 0) ⟨#[]⟩:=.inr ⟨w5.heap.size,0,0,rfl,Nat.le_refl _,by simp,Nat.le_refl _,Nat.zero_le _,fun i hi=>absurd hi (Nat.not_lt_zero _),fun j _ hj=>absurd hj (Nat.not_lt_zero _)⟩;have hb56:Below w5.heap.size w5 (w5.alloc (.cells #[] 5)):=(Below.refl _ _).alloc (Nat.le_refl _) _;have hb6:=hb5.trans (hb56.mono hb5.size);have hsr:Src Tryz.prog 1 27 (.slice (some ⟨g7,0,none⟩) X.size c7) X.size (Lib.strCells X) (w5.alloc (.cells #[] 5)):=Byts.src ((show Byts w5 _ X from .inr ⟨g7,0,rfl,hB5⟩).below hb56);have hz1:(⟨#[]⟩:ByteArray).size+X.size<=140737488355328:=by
     have:(⟨#[]⟩:ByteArray).size=0:=rfl;omega
   have hle1:w5.heap.size<=(w5.alloc (.cells #[] 5)).heap.size:=by simp
   have hz2:X.size+sm.size<=140737488355328:=by have:=hnm.out;omega
   clear hB5 hb56;replace hbuf:=Hd hbuf;replace hsr:=Hd hsr;replace hb5:=Hd hb5;replace hb6:=Hd hb6;replace hle1:=Hd hle1;go_wp2_with (at_builtin;refine append_buf rfl rfl rfl hbuf.out rfl hsr.out hz1 hle1.out ?_)
   intro v7 w7 hb7 hf7;rw [nil_left] at hb7;have hbe7:=hb6.out.trans (hf7.below (by have:=hb5.out.size;have:=hle1.out;omega) (fun i hi h=>by have:=hb5.out.size;omega));have hsr2:Src Tryz.prog 1 27 (.slice am sm.size cm) sm.size (Lib.strCells sm) w7:=(hm.out.below hbe7).src;rw [show (Value.slice am sm.size cm)=.slice am nm cm by rw [hnm.out]] at hsr2;have hle2:w5.heap.size<=w7.heap.size:=Nat.le_trans hle1.out hf7.size;obtain ⟨a7,c8,rfl,_⟩:=hb7.shape;clear hf7 hbuf hsr hb5 hb6 hle1 hz1;replace hb7:=Hd hb7;replace hbe7:=Hd hbe7;replace hsr2:=Hd hsr2;replace hle2:=Hd hle2;go_wp2_with (at_builtin;refine append_buf rfl rfl rfl hb7.out rfl hsr2.out hz2 hle2.out ?_)
   intro v8 w8 hb8 hf8;have hbe8:=hbe7.out.trans (hf8.below hbe7.out.size (fun i hi h=>by have:=h25.out;omega));obtain ⟨a8,c9,rfl,_⟩:=hb8.shape;have hcat:(X++sm).data.toList=u.wire++sm.data.toList:=by rw [ByteArray.data_append,Array.toList_append,hXl.out]
   have hzc:(X++sm).size<=1000000000:=by have:=hnm.out;rw [ByteArray.size_append];omega
   obtain ⟨s1,s2⟩:=scan_wire rpW_ok u 8 1 sm.data.toList fu.out ru.out (fun _=>Nat.le_refl _) (by omega);rw [<-hcat] at s1 s2;have hps:=parse_buf hb8 hzc ((hall.out w8 hbe8).2.2.2.2 _) s2;rw [s1,<-hXz.out] at hps;obtain ⟨y,hy⟩:∃y,y=u.norm:=⟨_,rfl⟩;rw [<-hy] at hps;have hyn:y.norm=u.norm:=by rw [hy];exact norm_norm u
   have hyc:y.count<=100000000:=by rw [hy,norm_count];omega
   generalize X++sm=XS at *;clear s1 s2 hcat hzc hz2 hf8 hb7 hsr2 hle2 hbe7 hb8;replace hps:=Hd hps;replace hy:=Hd hy;replace hyn:=Hd hyn;replace hbe8:=Hd hbe8;go_wp2_with fail
   refine hps.out.mono ?_;rintro e w9 ⟨ay,cy,rfl,hrvy,hb9⟩;replace hb9:=hbe8.out.trans (hb9.mono hbe8.out.size);replace hrvy:=hrvy.mono newer_all;clear hps hbe8;have hth:=Fp w9 26;have hnv:=new_val w9 26 [.int .i64 y.kind,.string y.text,.int .i64 y.int,.float .f64 y.real,.bool y.flag,.slice ay y.list.length cy] rfl;have hrvk:=hrvy;clear hrvy;replace hrvk:=Hd hrvk;replace hth:=Hd hth;replace hnv:=Hd hnv;replace hb9:=Hd hb9;have tok1:True:=trivial;go_upto_region 13 with (have _t:=tok1;refine wpList_store_mid rfl 26 _ _ rfl w9.heap.size 0 _ rfl rfl hth.out Ae (one6 _ _ _ _ _ _ _ _) ?_;clear tok1 _t)
   generalize (w9.alloc (.cells #[Value.int .i64 0,.string ⟨#[]⟩,.int .i64 0,.float .f64 0,.bool false,.slice none 0 0] 26)).setCells w9.heap.size 0 [Value.int .i64 y.kind,.string y.text,.int .i64 y.int,.float .f64 y.real,.bool y.flag,.slice ay y.list.length cy]=w10 at hnv ⊢;obtain ⟨hbn,hrX,_⟩:=hnv.out;have hrvy:=hrvk.out.mono (Aa hbn);have hb10:=hb9.out.trans (hbn.mono hb9.out.size);obtain ⟨BX,hBX⟩:∃B,B=w9.heap.size:=⟨_,rfl⟩;rw [<-hBX] at hrX ⊢;replace hBX:=Hd hBX;clear hth hnv hrvk hb9;have p04:_:=Af hb10 hru.out 0 (.int .i64 u.kind) rfl;have p14:_:=Af hb10 hru.out 1 (.string u.text) rfl;have p24:_:=Af hb10 hru.out 2 (.int .i64 u.int) rfl;have p34:_:=Af hb10 hru.out 3 (.float .f64 u.real) rfl;have p44:_:=Af hb10 hru.out 4 (.bool u.flag) rfl;have p54:_:=Af hb10 hru.out 5 (.slice ad u.list.length cap) rfl;rw [Nat.zero_add] at p04 p14 p24 p34 p44 p54
   obtain ⟨X2,hX2⟩:∃X2:ByteArray,X2=⟨(Ce u 2).toArray⟩:=⟨_,rfl⟩;have hX2l:X2.data.toList=D.old:=by
     rw [hX2,hD.out];show Ce u 2=_;unfold Ce;rw [if_neg (by decide)]
   have hX2z:X2.size<=5000000:=by
     have h1:=(bytesP_len (p:=2) fu.out ru.out (by omega)).2;rw [hX2,show (⟨(Ce u 2).toArray⟩:ByteArray).size=(Ce u 2).length from Aw _];omega
   have hrb:=refBytes_any 2 u u.kind u.text u.int u.real u.flag ad u.list.length cap 8 w10 ⟨⟨(hall.out w10 hb10).1,fu.out,ru.out,by omega,(hall.out w10 hb10).2.1⟩,(hall.out w10 hb10).2.2.1,(hall.out w10 hb10).2.2.2.1⟩;rw [<-hX2] at hrb;replace hrb:=Hd hrb;replace hX2:=Hd hX2;replace hX2l:=Hd hX2l;replace hb10:=Hd hb10;replace hrX:=Hd hrX;replace hrvy:=Hd hrvy;go_wp2_with fail
   refine hrb.out.mono ?_;rintro e w11 ⟨rfl,hb11⟩;have hrX11:=Af hb11 hrX.out;have hrv11:=hrvy.out.mono (Aa hb11);replace hb11:=hb10.out.trans (hb11.mono hb10.out.size);clear p04 p14 p24 p34 p44 p54;clear hrb hrX hrvy hb10;have hcv:=Lib.run_convert_string_bytes (P:=Tryz.prog) w11 9 27 5 X2 Tryz.underlying9 Tryz.underlying27 Tryz.underlying5;obtain ⟨w12,hw12⟩:∃w12,w12=Lib.bytesWorld w11 5 X2:=⟨_,rfl⟩;obtain ⟨c12,hc12⟩:∃c,c=grownCap w11 X2.size 0 5:=⟨_,rfl⟩;obtain ⟨g12,hg12⟩:∃g,g=w11.heap.size:=⟨_,rfl⟩;rw [<-hw12,<-hc12,<-hg12] at hcv;have hcge:X2.size<=c12:=by rw [hc12];exact grownCap_ge _ _ _ _
   have hbb:Below w11.heap.size w11 w12:=by rw [hw12];exact Go.Joins.below_bytesWorld _ _ _ _ (Nat.le_refl _)
   have hB12:Lib.Bytes w12 g12 0 X2:=fun i h=>by
     rw [Nat.zero_add,hw12,hg12,Lib.bytesWorld_cell w11 5 X2 i h,List.getD_eq_getElem?_getD,Lib.data_getElem? X2 i h];rfl
   have hgl12:g12<w12.heap.size:=by rw [hw12,hg12,Lib.bytesWorld_size];omega
   have hrX12:=Af hbb hrX11;have hrv12:=hrv11.mono (Aa hbb);have hb12:=hb11.trans (hbb.mono hb11.size);obtain ⟨s1,s2⟩:=scan_old rpW_ok D 8 1 [] fD.out rD.out hDD.out (by omega);rw [List.append_nil,<-hX2l.out] at s1 s2;rw [<-Aw] at s1;have hps:=R2.parse_any hB12 rfl hcge (by omega) ((hall.out w12 hb12).2.2.2.2 _) hgl12 s2;rw [s1] at hps;obtain ⟨z,hz⟩:∃z,z=D.norm:=⟨_,rfl⟩;rw [<-hz] at hps;have hzn:z.norm=D.norm:=by rw [hz];exact norm_norm D
   have hzc:z.count<=100000000:=by rw [hz,norm_count];omega
   clear s1 s2 hrX11 hrv11 hbb hB12 hgl12 hb11 hcge;replace hps:=Hd hps;replace hz:=Hd hz;replace hzn:=Hd hzn;replace hw12:=Hd hw12;replace hc12:=Hd hc12;replace hg12:=Hd hg12;replace hrX12:=Hd hrX12;replace hrv12:=Hd hrv12;replace hb12:=Hd hb12;go_wp2_with fail
   refine hps.out.mono ?_;rintro e w13 ⟨az,cz,rfl,hrvz,hb13⟩;replace hrvz:=hrvz.mono newer_all;have hrX13:=Af hb13 hrX12.out;have hrv13:=hrv12.out.mono (Aa hb13);replace hb13:=hb12.out.trans (hb13.mono hb12.out.size);clear hps hb12 hrX12 hrv12;replace hrX13:=Hd hrX13;replace hrv13:=Hd hrv13;have hth:=Fp w13 26;have hnv:=new_val w13 26 [.int .i64 z.kind,.string z.text,.int .i64 z.int,.float .f64 z.real,.bool z.flag,.slice az z.list.length cz] rfl;have hrvk:=hrvz;clear hrvz;replace hrvk:=Hd hrvk;replace hth:=Hd hth;replace hnv:=Hd hnv;replace hb13:=Hd hb13;have tok1:True:=trivial;go_upto_region 15 with (have _t:=tok1;refine wpList_store_mid rfl 26 _ _ rfl w13.heap.size 0 _ rfl rfl hth.out Ae (one6 _ _ _ _ _ _ _ _) ?_;clear tok1 _t)
   generalize (w13.alloc (.cells #[Value.int .i64 0,.string ⟨#[]⟩,.int .i64 0,.float .f64 0,.bool false,.slice none 0 0] 26)).setCells w13.heap.size 0 [Value.int .i64 z.kind,.string z.text,.int .i64 z.int,.float .f64 z.real,.bool z.flag,.slice az z.list.length cz]=w14 at hnv ⊢;obtain ⟨hbn,hrZ,_⟩:=hnv.out;have hrvz:=hrvk.out.mono (Aa hbn);have hb14:=hb13.out.trans (hbn.mono hb13.out.size);obtain ⟨BZ,hBZ⟩:∃B,B=w13.heap.size:=⟨_,rfl⟩;rw [<-hBZ] at hrZ ⊢;replace hBZ:=Hd hBZ;clear hth hnv hrvk hb13
   have hs1:∀wx,Below w14.heap.size w14 wx->Calls Tryz.prog 19 #[.agg #[.int .i64 y.kind,.string y.text,.int .i64 y.int,.float .f64 y.real,.bool y.flag,.slice ay y.list.length cy],.agg #[.int .i64 u.kind,.string u.text,.int .i64 u.int,.float .f64 u.real,.bool u.flag,.slice ad u.list.length cap]] wx fun e w' => ∃v,e=.returned v/\Below w14.heap.size w14 w' /\ Below wx.heap.size wx w' /\ v=.bool true:=fun wx hI=>by
     refine (same03_any y u ay y.list.length cy ad u.list.length cap wx ((hrv13.out.mono (Aa hbn)).mono (Aa hI)) (hall.out wx (hb14.trans (hI.mono hb14.size))).1 hyc).mono ?_;rintro e w' ⟨q,he,hq,hb⟩;obtain rfl:q=true:=hq.2 hyn.out;exact ⟨_,he,hI.trans (hb.mono hI.size),hb,rfl⟩
   have hs2:∀wx,Below w14.heap.size w14 wx->∀(a1:Option Addr) (c1:Nat),RV wx.cell? (Ai D.kind D.text D.int D.real D.flag a1 D.list.length c1) D->Calls Tryz.prog 19 #[.agg #[.int .i64 z.kind,.string z.text,.int .i64 z.int,.float .f64 z.real,.bool z.flag,.slice az z.list.length cz],.agg #[.int .i64 D.kind,.string D.text,.int .i64 D.int,.float .f64 D.real,.bool D.flag,.slice a1 D.list.length c1]] wx fun e w' => ∃v,e=.returned v/\Below w14.heap.size w14 w' /\ Below wx.heap.size wx w' /\ v=.bool true:=fun wx hI a1 c1 hd=>by
     refine (same03_any z D az z.list.length cz a1 D.list.length c1 wx (hrvz.mono (Aa hI)) hd hzc).mono ?_;rintro e w' ⟨q,he,hq,hb⟩;obtain rfl:q=true:=hq.2 hzn.out;exact ⟨_,he,hI.trans (hb.mono hI.size),hb,rfl⟩
   have hrd:∀wx,Below w14.heap.size w14 wx->Calls Tryz.prog 32 #[.agg #[.int .i64 u.kind,.string u.text,.int .i64 u.int,.float .f64 u.real,.bool u.flag,.slice ad u.list.length cap]] wx fun e w' => ∃v,e=.returned v/\Below w14.heap.size w14 w' /\ Below wx.heap.size wx w' /\
       ∃(a1:Option Addr) (c1:Nat),v=.agg #[.int .i64 D.kind,.string D.text,.int .i64 D.int,.float .f64 D.real,.bool D.flag,.slice a1 D.list.length c1]/\RV w'.cell? (Ai D.kind D.text D.int D.real D.flag a1 D.list.length c1) D:=fun wx hI=>by
     have hw:=hall.out wx (hb14.trans (hI.mono hb14.size))
     have h:=rdown_any u u.kind u.text u.int u.real u.flag ad u.list.length cap 8 wx ⟨⟨hw.1,fu.out,ru.out,by omega,hw.2.1⟩,hw.2.2.1,hw.2.2.2.1⟩
     unfold Gn at h
     rw [<-hD.out] at h
     exact h.mono fun e w' ⟨a1,c1,he,h1,hb⟩=>⟨_,he,hI.trans (hb.mono hI.size),hb,a1,c1,rfl,h1.mono newer_all⟩
   have hr6:w14.rangeAt bu 0 [.int .i64 u.kind,.string u.text,.int .i64 u.int,.float .f64 u.real,.bool u.flag,.slice ad u.list.length cap]:=Af hb14 hru.out;have hrX:=Af hbn hrX13.out;obtain ⟨W,hW⟩:∃W,W=w14:=⟨_,rfl⟩;rw [<-hW] at hs1 hs2 hrd hr6 hrX hrZ hb14 ⊢;have hbf:=hb0.out.trans (hb14.mono hb0.out.size);replace hs1:=Hd hs1;replace hs2:=Hd hs2;replace hrd:=Hd hrd;replace hr6:=Hd hr6;replace hrX:=Hd hrX;replace hrZ:=Hd hrZ;replace hbf:=Hd hbf;replace hW:=Hd hW;clear hrvz hrv13 hrX13 hbn hb14;go_upto_region 15 with fail
   replace hs1:=hs1.out;replace hs2:=hs2.out;replace hrd:=hrd.out;replace hr6:=hr6.out;replace hrX:=hrX.out;replace hrZ:=hrZ.out
   refine wp_region_rely (l:=[_,_,_,_,_,_,_,_,_,_,_,_,_,_,_,_,_,_,_,_,_,_,_,_,_,_,_,_,_,_]) (Below W.heap.size W) (Below W.heap.size W) waR (fun kG_=>([fun v _=>v=.int .i64 0,fun v _=>v=.bool true,fun v _=>v=.bool true,fun v _=>v=.int .i64 (X.size:Nat),fun v _=>v=.slice (some ⟨g7,0,none⟩) X.size c7,fun v _=>v=.int .i64 (X.size:Nat),fun v _=>v=.bool true,fun v _=>v=.bool true,fun v _=>v=.bool true,fun v _=>v=.agg #[.int .i64 y.kind,.string y.text,.int .i64 y.int,.float .f64 y.real,.bool y.flag,.slice ay y.list.length cy],fun v _=>v=.agg #[.int .i64 u.kind,.string u.text,.int .i64 u.int,.float .f64 u.real,.bool u.flag,.slice ad u.list.length cap],fun v _=>v=.bool true,fun v _=>v=.bool true,fun v _=>v=.bool true,fun v _=>v=.int .i64 0,fun v _=>v=.bool true,fun v _=>v=.bool true,fun v _=>v=.bool true,fun v _=>v=.int .i64 (X2.size:Nat),fun v _=>v=.string X2,fun v _=>v=.int .i64 (X2.size:Nat),fun v _=>v=.bool true,fun v _=>v=.bool true,fun v _=>v=.bool true,fun v _=>v=.agg #[.int .i64 z.kind,.string z.text,.int .i64 z.int,.float .f64 z.real,.bool z.flag,.slice az z.list.length cz],fun v _=>v=.agg #[.int .i64 u.kind,.string u.text,.int .i64 u.int,.float .f64 u.real,.bool u.flag,.slice ad u.list.length cap],fun v w=>∃(a1:Option Addr) (c1:Nat),v=.agg #[.int .i64 D.kind,.string D.text,.int .i64 D.int,.float .f64 D.real,.bool D.flag,.slice a1 D.list.length c1]/\RV w.cell? (Ai D.kind D.text D.int D.real D.flag a1 D.list.length c1) D,fun v _=>v=.bool true,fun v _=>v=.bool true,fun v _=>v=.bool true]:List (Value->World->Prop)).getD kG_ (fun _ _=>True)) (eats []) (isIn [29]) (by kernel_rfl) (by kernel_rfl) (by kernel_rfl) ((Below.refl _ _).drew) ((Below.refl _ _).drew) ?_ ?_ ?_ ?_
   · intro i kG_ u w w' hne hE hg hr
     rcases kG_ with _ | _ | _ | _ | _ | _ | _ | _ | _ | _ | _ | _ | _ | _ | _ | _ | _ | _ | _ | _ | _ | _ | _ | _ | _ | _ | _ | _ | _ | _ | kG_
     · exact hg
     · exact hg
     · exact hg
     · exact hg
     · exact hg
     · exact hg
     · exact hg
     · exact hg
     · exact hg
     · exact hg
     · exact hg
     · exact hg
     · exact hg
     · exact hg
     · exact hg
     · exact hg
     · exact hg
     · exact hg
     · exact hg
     · exact hg
     · exact hg
     · exact hg
     · exact hg
     · exact hg
     · exact hg
     · exact hg
     · replace hg:(fun (v:Value) (w:World)=>∃(a1:Option Addr) (c1:Nat),v=.agg #[.int .i64 D.kind,.string D.text,.int .i64 D.int,.float .f64 D.real,.bool D.flag,.slice a1 D.list.length c1]/\RV w.cell? (Ai D.kind D.text D.int D.real D.flag a1 D.list.length c1) D) u w:=hg
       show (fun (v:Value) (w:World)=>∃(a1:Option Addr) (c1:Nat),v=.agg #[.int .i64 D.kind,.string D.text,.int .i64 D.int,.float .f64 D.real,.bool D.flag,.slice a1 D.list.length c1]/\RV w.cell? (Ai D.kind D.text D.int D.real D.flag a1 D.list.length c1) D) u w';dsimp only at hg ⊢;replace hE:exB _ _ i 26=false:=hE;replace hne:26≠i:=hne;unfold waR at hr;split at hr
       all_goals first
         | exact absurd rfl hne
         | exact absurd (hE.symm.trans (by decide +kernel:exB _ _ _ _=true)) (by decide)
         | (subst hr;exact hg)
         | ((obtain ⟨a1,c1,h1,h2⟩:=hg;exact ⟨a1,c1,h1,h2.mono (Aa hr)⟩))
     · exact hg
     · exact hg
     · exact hg
     · trivial
   · intro i w w' hF hI hr
     unfold waR at hr;split at hr
     · exact hI.trans (hr.mono hI.size)
     · exact hI.trans (hr.mono hI.size)
     · exact hI.trans (hr.mono hI.size)
     · subst hr;exact hI
   · refine ⟨?_,?_,?_,?_,?_,?_,?_,?_,?_,?_,?_,?_,?_,?_,?_,?_,?_,?_,?_,?_,?_,?_,?_,?_,?_,?_,?_,?_,?_,?_,trivial⟩
     · refine VC.plain rfl fun a wx hf=>?_
       have s13:=hf.old 13 (by first | rfl | kernel_rfl);have q13:=Am s13;exact gives_value (by simp [go_sem,q13]) ⟨hf.c,rfl,rfl⟩
     · refine VC.plain rfl fun a wx hf=>?_
       obtain ⟨v85,g85,s85⟩:=hf.got 0 (by kernel_rfl) (by intro j hj;simp [eats] at hj) rfl rfl;replace s85:=s85.trans (show v85=.int .i64 0 from g85);clear g85;have q85:=Am s85;exact gives_value (by simp [go_sem,q85]) ⟨hf.c,rfl,rfl⟩
     · refine VC.plain rfl fun a wx hf=>?_
       obtain ⟨v86,g86,s86⟩:=hf.got 1 (by kernel_rfl) (by intro j hj;simp [eats] at hj) rfl rfl;replace s86:=s86.trans (show v86=.bool true from g86);clear g86;have q86:=Am s86;exact gives_value (by simp [go_sem,q86]) ⟨hf.c,rfl,rfl⟩
     · refine VC.guarded (g:=2) (b:=true) (t:=87) rfl rfl rfl (fun a wx hf=>by obtain ⟨v0,g0,s0⟩:=hf.got 2 (by kernel_rfl) (by intro j hj;simp [eats] at hj) rfl rfl;exact s0.trans g0) (fun a wx hf=>?_)
       have s12:=hf.old 12 (by first | rfl | kernel_rfl);have q12:=Am s12;exact gives_value (by simp [go_sem,q12]) ⟨hf.c,rfl,rfl⟩
     · refine VC.guarded (g:=2) (b:=true) (t:=87) rfl rfl rfl (fun a wx hf=>by obtain ⟨v0,g0,s0⟩:=hf.got 2 (by kernel_rfl) (by intro j hj;simp [eats] at hj) rfl rfl;exact s0.trans g0) (fun a wx hf=>?_)
       have s7:=hf.old 7 (by first | rfl | kernel_rfl);have q7:=Am s7;exact gives_value (by simp [go_sem,q7]) ⟨hf.c,rfl,rfl⟩
     · refine VC.guarded (g:=2) (b:=true) (t:=87) rfl rfl rfl (fun a wx hf=>by obtain ⟨v0,g0,s0⟩:=hf.got 2 (by kernel_rfl) (by intro j hj;simp [eats] at hj) rfl rfl;exact s0.trans g0) (fun a wx hf=>?_)
       obtain ⟨v89,g89,s89⟩:=hf.got 4 (by kernel_rfl) (by intro j hj;simp [eats] at hj) rfl rfl;replace s89:=s89.trans (show v89=.slice (some ⟨g7,0,none⟩) X.size c7 from g89);clear g89;have q89:=Am s89;have hI:=hf.start (by kernel_rfl);exact gives_value (by simp [go_sem,q89]) ⟨hf.c,rfl,rfl⟩
     · refine VC.guarded (g:=2) (b:=true) (t:=87) rfl rfl rfl (fun a wx hf=>by obtain ⟨v0,g0,s0⟩:=hf.got 2 (by kernel_rfl) (by intro j hj;simp [eats] at hj) rfl rfl;exact s0.trans g0) (fun a wx hf=>?_)
       obtain ⟨v88,g88,s88⟩:=hf.got 3 (by kernel_rfl) (by intro j hj;simp [eats] at hj) rfl rfl;replace s88:=s88.trans (show v88=.int .i64 (X.size:Nat) from g88);clear g88;have q88:=Am s88;obtain ⟨v90,g90,s90⟩:=hf.got 5 (by kernel_rfl) (by intro j hj;simp [eats] at hj) rfl rfl;replace s90:=s90.trans (show v90=.int .i64 (X.size:Nat) from g90);clear g90;have q90:=Am s90;exact gives_value (by simp [go_sem,q88,q90]) ⟨hf.c,rfl,rfl⟩
     · refine VC.plain rfl fun a wx hf=>?_
       obtain ⟨v87,g87,s87⟩:=hf.got 2 (by kernel_rfl) (by intro j hj;simp [eats] at hj) rfl rfl;replace s87:=s87.trans (show v87=.bool true from g87);clear g87;have q87:=Am s87;obtain ⟨v91,g91,s91⟩:=hf.got 6 (by kernel_rfl) (by intro j hj;simp [eats] at hj) rfl rfl;replace s91:=s91.trans (show v91=.bool true from g91);clear g91;have q91:=Am s91;have hI:=hf.start (by kernel_rfl);exact gives_value (by simp [go_sem,q87,q91]) ⟨hf.c,rfl,rfl⟩
     · refine VC.plain rfl fun a wx hf=>?_
       obtain ⟨v92,g92,s92⟩:=hf.got 7 (by kernel_rfl) (by intro j hj;simp [eats] at hj) rfl rfl;replace s92:=s92.trans (show v92=.bool true from g92);clear g92;have q92:=Am s92;exact gives_value (by simp [go_sem,q92]) ⟨hf.c,rfl,rfl⟩
     · refine VC.guarded (g:=8) (b:=true) (t:=93) rfl rfl rfl (fun a wx hf=>by obtain ⟨v0,g0,s0⟩:=hf.got 8 (by kernel_rfl) (by intro j hj;simp [eats] at hj) rfl rfl;exact s0.trans g0) (fun a wx hf=>?_)
       have s11:=hf.old 11 (by first | rfl | kernel_rfl);have q11:=Am s11;have hI:=hf.start (by kernel_rfl);exact Cg rfl s11 (Af hI hrX) Tryz.underlying26 rfl Ae ⟨hf.c,rfl,rfl⟩
     · refine VC.guarded (g:=8) (b:=true) (t:=93) rfl rfl rfl (fun a wx hf=>by obtain ⟨v0,g0,s0⟩:=hf.got 8 (by kernel_rfl) (by intro j hj;simp [eats] at hj) rfl rfl;exact s0.trans g0) (fun a wx hf=>?_)
       have s3:=hf.old 3 (by first | rfl | kernel_rfl);have q3:=Am s3;have hI:=hf.start (by kernel_rfl);exact Cg rfl s3 (Af hI hr6) Tryz.underlying26 rfl Ae ⟨hf.c,rfl,rfl⟩
     · refine VC.guarded (g:=8) (b:=true) (t:=93) rfl rfl rfl (fun a wx hf=>by obtain ⟨v0,g0,s0⟩:=hf.got 8 (by kernel_rfl) (by intro j hj;simp [eats] at hj) rfl rfl;exact s0.trans g0) (fun a wx hf=>?_)
       obtain ⟨v94,g94,s94⟩:=hf.got 9 (by kernel_rfl) (by intro j hj;simp [eats] at hj) rfl rfl;replace s94:=s94.trans (show v94=.agg #[.int .i64 y.kind,.string y.text,.int .i64 y.int,.float .f64 y.real,.bool y.flag,.slice ay y.list.length cy] from g94);clear g94;have q94:=Am s94;obtain ⟨v95,g95,s95⟩:=hf.got 10 (by kernel_rfl) (by intro j hj;simp [eats] at hj) rfl rfl;replace s95:=s95.trans (show v95=.agg #[.int .i64 u.kind,.string u.text,.int .i64 u.int,.float .f64 u.real,.bool u.flag,.slice ad u.list.length cap] from g95);clear g95;have q95:=Am s95;have hI:=hf.start (by kernel_rfl);exact Gi (f:=19) (args:=#[.agg #[.int .i64 y.kind,.string y.text,.int .i64 y.int,.float .f64 y.real,.bool y.flag,.slice ay y.list.length cy],.agg #[.int .i64 u.kind,.string u.text,.int .i64 u.int,.float .f64 u.real,.bool u.flag,.slice ad u.list.length cap]]) (by simp [go_sem,q94,q95]) (hs1 wx hI)
     · refine VC.plain rfl fun a wx hf=>?_
       obtain ⟨v93,g93,s93⟩:=hf.got 8 (by kernel_rfl) (by intro j hj;simp [eats] at hj) rfl rfl;replace s93:=s93.trans (show v93=.bool true from g93);clear g93;have q93:=Am s93;obtain ⟨v96,g96,s96⟩:=hf.got 11 (by kernel_rfl) (by intro j hj;simp [eats] at hj) rfl rfl;replace s96:=s96.trans (show v96=.bool true from g96);clear g96;have q96:=Am s96;have hI:=hf.start (by kernel_rfl);exact gives_value (by simp [go_sem,q93,q96]) ⟨hf.c,rfl,rfl⟩
     · refine VC.plain rfl fun a wx hf=>?_
       obtain ⟨v97,g97,s97⟩:=hf.got 12 (by kernel_rfl) (by intro j hj;simp [eats] at hj) rfl rfl;replace s97:=s97.trans (show v97=.bool true from g97);clear g97;have q97:=Am s97;exact gives_value (by simp [go_sem,q97]) ⟨hf.c,rfl,rfl⟩
     · refine VC.guarded (g:=13) (b:=true) (t:=98) rfl rfl rfl (fun a wx hf=>by obtain ⟨v0,g0,s0⟩:=hf.got 13 (by kernel_rfl) (by intro j hj;simp [eats] at hj) rfl rfl;exact s0.trans g0) (fun a wx hf=>?_)
       have s17:=hf.old 17 (by first | rfl | kernel_rfl);have q17:=Am s17;exact gives_value (by simp [go_sem,q17]) ⟨hf.c,rfl,rfl⟩
     · refine VC.guarded (g:=13) (b:=true) (t:=98) rfl rfl rfl (fun a wx hf=>by obtain ⟨v0,g0,s0⟩:=hf.got 13 (by kernel_rfl) (by intro j hj;simp [eats] at hj) rfl rfl;exact s0.trans g0) (fun a wx hf=>?_)
       obtain ⟨v99,g99,s99⟩:=hf.got 14 (by kernel_rfl) (by intro j hj;simp [eats] at hj) rfl rfl;replace s99:=s99.trans (show v99=.int .i64 0 from g99);clear g99;have q99:=Am s99;exact gives_value (by simp [go_sem,q99]) ⟨hf.c,rfl,rfl⟩
     · refine VC.plain rfl fun a wx hf=>?_
       obtain ⟨v98,g98,s98⟩:=hf.got 13 (by kernel_rfl) (by intro j hj;simp [eats] at hj) rfl rfl;replace s98:=s98.trans (show v98=.bool true from g98);clear g98;have q98:=Am s98;obtain ⟨v100,g100,s100⟩:=hf.got 15 (by kernel_rfl) (by intro j hj;simp [eats] at hj) rfl rfl;replace s100:=s100.trans (show v100=.bool true from g100);clear g100;have q100:=Am s100;have hI:=hf.start (by kernel_rfl);exact gives_value (by simp [go_sem,q98,q100]) ⟨hf.c,rfl,rfl⟩
     · refine VC.plain rfl fun a wx hf=>?_
       obtain ⟨v101,g101,s101⟩:=hf.got 16 (by kernel_rfl) (by intro j hj;simp [eats] at hj) rfl rfl;replace s101:=s101.trans (show v101=.bool true from g101);clear g101;have q101:=Am s101;exact gives_value (by simp [go_sem,q101]) ⟨hf.c,rfl,rfl⟩
     · refine VC.guarded (g:=17) (b:=true) (t:=102) rfl rfl rfl (fun a wx hf=>by obtain ⟨v0,g0,s0⟩:=hf.got 17 (by kernel_rfl) (by intro j hj;simp [eats] at hj) rfl rfl;exact s0.trans g0) (fun a wx hf=>?_)
       have s16:=hf.old 16 (by first | rfl | kernel_rfl);have q16:=Am s16;exact gives_value (by simp [go_sem,q16]) ⟨hf.c,rfl,rfl⟩
     · refine VC.guarded (g:=17) (b:=true) (t:=102) rfl rfl rfl (fun a wx hf=>by obtain ⟨v0,g0,s0⟩:=hf.got 17 (by kernel_rfl) (by intro j hj;simp [eats] at hj) rfl rfl;exact s0.trans g0) (fun a wx hf=>?_)
       have s14:=hf.old 14 (by first | rfl | kernel_rfl);have q14:=Am s14;exact gives_value (by simp [go_sem,q14]) ⟨hf.c,rfl,rfl⟩
     · refine VC.guarded (g:=17) (b:=true) (t:=102) rfl rfl rfl (fun a wx hf=>by obtain ⟨v0,g0,s0⟩:=hf.got 17 (by kernel_rfl) (by intro j hj;simp [eats] at hj) rfl rfl;exact s0.trans g0) (fun a wx hf=>?_)
       obtain ⟨v104,g104,s104⟩:=hf.got 19 (by kernel_rfl) (by intro j hj;simp [eats] at hj) rfl rfl;replace s104:=s104.trans (show v104=.string X2 from g104);clear g104;have q104:=Am s104;have hI:=hf.start (by kernel_rfl);exact gives_value (by simp [go_sem,q104]) ⟨hf.c,rfl,rfl⟩
     · refine VC.guarded (g:=17) (b:=true) (t:=102) rfl rfl rfl (fun a wx hf=>by obtain ⟨v0,g0,s0⟩:=hf.got 17 (by kernel_rfl) (by intro j hj;simp [eats] at hj) rfl rfl;exact s0.trans g0) (fun a wx hf=>?_)
       obtain ⟨v103,g103,s103⟩:=hf.got 18 (by kernel_rfl) (by intro j hj;simp [eats] at hj) rfl rfl;replace s103:=s103.trans (show v103=.int .i64 (X2.size:Nat) from g103);clear g103;have q103:=Am s103;obtain ⟨v105,g105,s105⟩:=hf.got 20 (by kernel_rfl) (by intro j hj;simp [eats] at hj) rfl rfl;replace s105:=s105.trans (show v105=.int .i64 (X2.size:Nat) from g105);clear g105;have q105:=Am s105;exact gives_value (by simp [go_sem,q103,q105]) ⟨hf.c,rfl,rfl⟩
     · refine VC.plain rfl fun a wx hf=>?_
       obtain ⟨v102,g102,s102⟩:=hf.got 17 (by kernel_rfl) (by intro j hj;simp [eats] at hj) rfl rfl;replace s102:=s102.trans (show v102=.bool true from g102);clear g102;have q102:=Am s102;obtain ⟨v106,g106,s106⟩:=hf.got 21 (by kernel_rfl) (by intro j hj;simp [eats] at hj) rfl rfl;replace s106:=s106.trans (show v106=.bool true from g106);clear g106;have q106:=Am s106;have hI:=hf.start (by kernel_rfl);exact gives_value (by simp [go_sem,q102,q106]) ⟨hf.c,rfl,rfl⟩
     · refine VC.plain rfl fun a wx hf=>?_
       obtain ⟨v107,g107,s107⟩:=hf.got 22 (by kernel_rfl) (by intro j hj;simp [eats] at hj) rfl rfl;replace s107:=s107.trans (show v107=.bool true from g107);clear g107;have q107:=Am s107;exact gives_value (by simp [go_sem,q107]) ⟨hf.c,rfl,rfl⟩
     · refine VC.guarded (g:=23) (b:=true) (t:=108) rfl rfl rfl (fun a wx hf=>by obtain ⟨v0,g0,s0⟩:=hf.got 23 (by kernel_rfl) (by intro j hj;simp [eats] at hj) rfl rfl;exact s0.trans g0) (fun a wx hf=>?_)
       have s15:=hf.old 15 (by first | rfl | kernel_rfl);have q15:=Am s15;have hI:=hf.start (by kernel_rfl);exact Cg rfl s15 (Af hI hrZ) Tryz.underlying26 rfl Ae ⟨hf.c,rfl,rfl⟩
     · refine VC.guarded (g:=23) (b:=true) (t:=108) rfl rfl rfl (fun a wx hf=>by obtain ⟨v0,g0,s0⟩:=hf.got 23 (by kernel_rfl) (by intro j hj;simp [eats] at hj) rfl rfl;exact s0.trans g0) (fun a wx hf=>?_)
       have s3:=hf.old 3 (by first | rfl | kernel_rfl);have q3:=Am s3;have hI:=hf.start (by kernel_rfl);exact Cg rfl s3 (Af hI hr6) Tryz.underlying26 rfl Ae ⟨hf.c,rfl,rfl⟩
     · refine VC.guarded (g:=23) (b:=true) (t:=108) rfl rfl rfl (fun a wx hf=>by obtain ⟨v0,g0,s0⟩:=hf.got 23 (by kernel_rfl) (by intro j hj;simp [eats] at hj) rfl rfl;exact s0.trans g0) (fun a wx hf=>?_)
       obtain ⟨v110,g110,s110⟩:=hf.got 25 (by kernel_rfl) (by intro j hj;simp [eats] at hj) rfl rfl;replace s110:=s110.trans (show v110=.agg #[.int .i64 u.kind,.string u.text,.int .i64 u.int,.float .f64 u.real,.bool u.flag,.slice ad u.list.length cap] from g110);clear g110;have q110:=Am s110;have hI:=hf.start (by kernel_rfl);exact Gi (f:=32) (args:=#[.agg #[.int .i64 u.kind,.string u.text,.int .i64 u.int,.float .f64 u.real,.bool u.flag,.slice ad u.list.length cap]]) (by simp [go_sem,q110]) (hrd wx hI)
     · refine VC.guarded (g:=23) (b:=true) (t:=108) rfl rfl rfl (fun a wx hf=>by obtain ⟨v0,g0,s0⟩:=hf.got 23 (by kernel_rfl) (by intro j hj;simp [eats] at hj) rfl rfl;exact s0.trans g0) (fun a wx hf=>?_)
       obtain ⟨v109,g109,s109⟩:=hf.got 24 (by kernel_rfl) (by intro j hj;simp [eats] at hj) rfl rfl;replace s109:=s109.trans (show v109=.agg #[.int .i64 z.kind,.string z.text,.int .i64 z.int,.float .f64 z.real,.bool z.flag,.slice az z.list.length cz] from g109);clear g109;have q109:=Am s109;obtain ⟨v111,g111,s111⟩:=hf.got 26 (by kernel_rfl) (by intro j hj;simp [eats] at hj) rfl rfl;have q111:=Am s111;replace g111:(fun (v:Value) (w:World)=>∃(a1:Option Addr) (c1:Nat),v=.agg #[.int .i64 D.kind,.string D.text,.int .i64 D.int,.float .f64 D.real,.bool D.flag,.slice a1 D.list.length c1]/\RV w.cell? (Ai D.kind D.text D.int D.real D.flag a1 D.list.length c1) D) v111 wx:=g111;dsimp only at g111;have hI:=hf.start (by kernel_rfl);obtain ⟨a1,c1,rfl,hrv1⟩:=g111
       exact Gi (f:=19) (args:=#[.agg #[.int .i64 z.kind,.string z.text,.int .i64 z.int,.float .f64 z.real,.bool z.flag,.slice az z.list.length cz],.agg #[.int .i64 D.kind,.string D.text,.int .i64 D.int,.float .f64 D.real,.bool D.flag,.slice a1 D.list.length c1]]) (by simp [go_sem,q109,q111]) (hs2 wx hI a1 c1 hrv1)
     · refine VC.plain rfl fun a wx hf=>?_
       obtain ⟨v108,g108,s108⟩:=hf.got 23 (by kernel_rfl) (by intro j hj;simp [eats] at hj) rfl rfl;replace s108:=s108.trans (show v108=.bool true from g108);clear g108;have q108:=Am s108;obtain ⟨v112,g112,s112⟩:=hf.got 27 (by kernel_rfl) (by intro j hj;simp [eats] at hj) rfl rfl;replace s112:=s112.trans (show v112=.bool true from g112);clear g112;have q112:=Am s112;have hI:=hf.start (by kernel_rfl);exact gives_value (by simp [go_sem,q108,q112]) ⟨hf.c,rfl,rfl⟩
     · refine VC.plain rfl fun a wx hf=>?_
       obtain ⟨v113,g113,s113⟩:=hf.got 28 (by kernel_rfl) (by intro j hj;simp [eats] at hj) rfl rfl;replace s113:=s113.trans (show v113=.bool true from g113);clear g113;have q113:=Am s113;have hI:=hf.start (by kernel_rfl);exact gives_value (by simp [go_sem,q113]) ⟨hf.c,rfl,rfl⟩
   · intro vs w9 hb9 hG
     have n29:vs 29=.bool true:=hG 29 (by decide) (by decide);have hbe:=hbf.out.trans (hb9.mono hbf.out.size);replace hbe:=Hd hbe;clear hs1 hs2 hrd hr6 hrX hrZ hG hb9;simp only [putFrom,Act.put,List.setIfInBounds_toArray,List.set_cons_zero,List.set_cons_succ,n29];clear n29;go_wp2_with fail
     go_ret;exact ⟨rfl,hbe.out⟩
end R2
end Go.Proofs.YtagkgfniihiinaaGreatDoor
