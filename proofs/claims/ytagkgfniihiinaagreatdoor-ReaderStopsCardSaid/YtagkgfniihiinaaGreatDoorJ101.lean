/- The reader at the bytes of a value. -/
import Derived.Test.YtagkgfniihiinaaGreatDoorJ52
import Derived.Test.YtagkgfniihiinaaGreatDoorJ98
set_option linter.all false
set_option maxHeartbeats 3200000
set_option maxRecDepth 100000
namespace Go.Proofs.YtagkgfniihiinaaGreatDoor
theorem dec_free10 (u:Nat):(10:UInt8) ∉ Lib.decDigits u:=fun h=>absurd (Dr u _ h) (by decide)
theorem D9 (n:Int):(10:UInt8) ∉ Lib.itoa n:=by
 unfold Lib.itoa;split
 ·intro h
  rcases List.mem_cons.1 h with h | h
  ·exact absurd h (by decide)
  ·exact dec_free10 _ h
 ·exact dec_free10 _
theorem real_free10 {r:Nat} (h:r<18446744073709551616):(10:UInt8) ∉ Bs r:=by
 cases hnan:nanF r with
 | true=>rw [Eo hnan];decide
 | false=>
  rw [Dc hnan];have hb:=De hnan;intro hm;rcases List.mem_append.1 hm with hm | hm
  ·unfold A7 at hm
   split at hm
   ·rw [List.mem_singleton] at hm;exact absurd hm (by decide)
   ·cases hm
  ·rcases Nat.eq_or_lt_of_le hb with h1 | h1
   ·rw [h1] at hm
    unfold B0 at hm;rw [if_pos rfl] at hm;exact absurd hm (by decide)
   ·rcases Nat.eq_zero_or_pos (r % 9223372036854775808) with h0 | h0
    ·rw [h0,Dx] at hm;exact absurd hm (by decide)
    ·obtain ⟨_,d,L,m,x,hR⟩:=Cv (s:=⟨(B0 (r % 9223372036854775808)).toArray⟩) (neg:=false) h0 h1 rfl
     obtain ⟨⟨c,b,rest,e1,_,_,_,e5⟩,_,_⟩:=hR.txt;have e6:B0 (r % 9223372036854775808)=c :: b:=e1;rw [e6] at hm;rcases e5 10 hm with h | h | h | h | h
     ·exact absurd h (by decide)
     all_goals exact absurd h (by decide)
theorem crlf_free10 {t:ByteArray} (h:E5 t=false):(10:UInt8) ∉ t.data.toList:=by
 intro hm;unfold E5 Lib.containsAny at h;rw [decide_eq_false_iff_not] at h;refine h ?_;have a:∀(l:List UInt8),(10:UInt8)∈l->0<=Lib.indexAny l [13,10]:=by
  intro l;induction l with
  | nil=>intro h;cases h
  | cons b l ih=>
   intro h;unfold Lib.indexAny;split
   ·exact Int.le_refl _
   ·rename_i hb
    rcases List.mem_cons.1 h with h | h
    ·subst h;exact absurd (by decide) hb
    ·have:=ih h
     split
     ·rename_i h2
      have h3:=beq_iff_eq.1 h2;omega
     ·omega
 exact a _ hm
theorem big_free10 {t:ByteArray} (h:bigB t=true):(10:UInt8) ∉ t.data.toList:=by
 rw [bigB_eq,Bool.and_eq_true,List.all_eq_true] at h;intro hm;have hd:=h.2;unfold Fb at hd;have b:digB 10=false:=by decide
 split at hd
 ·rename_i a
  cases hl:t.data.toList with
  | nil=>rw [hl] at hm;cases hm
  | cons c l=>
   rw [hl] at hm hd a;rcases List.mem_cons.1 hm with h1 | h1
   ·rw [List.head?_cons] at a
    have:=Option.some.inj a;rw [<-h1] at this;exact absurd this (by decide)
   ·have:=hd 10 (by simpa using h1)
    rw [b] at this;cases this
 ·have:=hd 10 (by simpa using hm)
  rw [b] at this;cases this
theorem index_at:∀{t:List UInt8} {c:UInt8} (z:List UInt8),c ∉ t->Lib.indexByte (t++c :: z) c=(t.length:Int)
 | [],c,z,_=>by
  show Lib.indexByte (c :: z) c=0;unfold Lib.indexByte;rw [if_pos (by simp)]
 | x :: t,c,z,h=>by
  have hx:¬(x == c)=true:=fun e=>h (by rw [beq_iff_eq.1 e];exact List.mem_cons_self ..);have ih:=index_at (t:=t) z (fun hm=>h (List.mem_cons_of_mem _ hm));rw [List.cons_append];unfold Lib.indexByte;rw [if_neg hx,ih,if_neg (by simp),List.length_cons];omega
theorem index_no:∀{t:List UInt8} {c:UInt8},c ∉ t->Lib.indexByte t c=-1
 | [],_,_=>rfl
 | x :: t,c,h=>by
  have hx:¬(x == c)=true:=fun e=>h (by rw [beq_iff_eq.1 e];exact List.mem_cons_self ..);unfold Lib.indexByte;rw [if_neg hx,index_no (fun hm=>h (List.mem_cons_of_mem _ hm)),if_pos (by rfl)]
theorem Fx {t z:List UInt8} (h13:(13:UInt8) ∉ t) (h10:(10:UInt8) ∉ t) (hz:t.length<=4198):Az (t++13 :: 10 :: z)=.got (t,t.length+2):=by
 obtain ⟨z', hR⟩:∃z', (t++13 :: 10 :: z).take 4200=t++13 :: 10 :: z' := by
  refine ⟨z.take (4200 - t.length - 2),?_⟩;rw [List.take_append,List.take_of_length_le (by omega)];congr 1;obtain ⟨k,hk⟩:∃k,4200 - t.length=k+2:=⟨4200 - t.length - 2,by omega⟩;rw [hk,List.take_succ_cons,List.take_succ_cons,show k+2 - 2=k by omega]
 have e1:Lib.indexByte (t++13 :: 10 :: z') 13=(t.length:Int):=index_at _ h13;have e2:Lib.indexByte (t++13 :: 10 :: z') 10=((t.length+1:Nat):Int):=by
  have:=index_at (t:=t++[13]) (c:=10) z' (fun hm=>by
   rcases List.mem_append.1 hm with hm | hm
   ·exact h10 hm
   ·rw [List.mem_singleton] at hm;exact absurd hm (by decide))
  rw [List.append_assoc,List.length_append] at this;exact this
 unfold Az;rw [hR];dsimp only;rw [e1,e2,if_neg (by omega),if_neg (by omega)];congr 2
 ·rw [show (((t.length+1:Nat):Int) - 1).toNat=t.length by omega,List.take_left]
theorem longS_got {t z:List UInt8}:Cd (t++13 :: 10 :: z) t.length=.got t:=by
 unfold Cd;have e1:(t++13 :: 10 :: z).getD t.length 0=13:=by simp [List.getD]
 have e2:(t++13 :: 10 :: z).getD (t.length+1) 0=10:=by simp [List.getD]
 rw [e1,e2,if_neg (by simp),if_neg (by simp),List.take_left]
theorem getD_app {p q:List UInt8} {k:Nat} (h:k<p.length):p.getD k 0=(p++q).getD k 0:=by
 simp only [List.getD];rw [List.getElem?_append_left h]
theorem scan_head_leaf {rp:Rp} {lv many u:Nat} {L:List UInt8} {v:V} (h:A0 rp L=.leaf v u) (hn:needH rp L):At rp lv many L=.got (v,u,many)/\Dj rp lv many L:=by
 cases lv with
 | zero=>exact ⟨by rw [At,h],hn⟩
 | succ lv=>exact ⟨by rw [At,h],hn,fun kd n u e=>by rw [h] at e;cases e⟩
theorem lineL_app (m:UInt8) (t z:List UInt8):C0 m t++z=m :: (t++13 :: 10 :: z):=by unfold C0;simp
theorem needH_line {rp:Rp} {m:UInt8} {t z:List UInt8} (h13:(13:UInt8) ∉ t) (h10:(10:UInt8) ∉ t) (hz:t.length<=4198) (hK:Ab m=7->rp.K t):needH rp (m :: (t++13 :: 10 :: z)):=by
 intro c L' t' u e hk hl;obtain ⟨e1,e2⟩:=List.cons.inj e;rw [<-e2,Fx h13 h10 hz] at hl;simp only [Out.got.injEq,Prod.mk.injEq] at hl;rw [<-hl.1];exact hK (by rw [e1];exact hk)
structure RpOk (rp:Rp):Prop where
 reads:∀r,r<18446744073709551616->rp (Bs r)=some (Cp r)
 known:∀r,r<18446744073709551616->rp.K (Bs r)
theorem itoa_reads (n:Nat) (h:n<=9223372036854775807):wP (Lib.itoa (n:Int))=some (n:Int):=wP_iff.2 ⟨by omega,rfl⟩
theorem numS_itoa {n most:Nat} (h:n<=most) (hm:most<=100000):numS (Lib.itoa (n:Int)) most=some n:=by
 unfold numS;rw [itoa_reads n (by omega)];dsimp only;rw [if_pos (by omega)];rfl
theorem itoa_le {n:Int} (h0:-9223372036854775808<=n) (h1:n<=9223372036854775807):(Lib.itoa n).length<=4198:=by
 have:=itoa_len21 h0 h1;omega
theorem itoa_not_m1 (n:Nat):Lib.itoa (n:Int)≠[45,49]:=by
 intro h;have h1:=(wP_iff (l:=Lib.itoa (n:Int)) (v:=(n:Int)));have h2:Lib.itoa (-1)=[45,49]:=by decide +kernel
 rw [<-h2] at h;have:=itoa_inj h;omega
theorem Fp {r:Nat} (h:A9 r=0):r=0:=by
 unfold A9 at h;split at h
 ·cases h
 ·exact h
theorem text_list (t:ByteArray):(⟨t.data.toList.toArray⟩:ByteArray)=t:=ByteArray.ext (by simp)
theorem norm_mk (k:Int) (t:ByteArray) (i:Int) (r:Nat) (f:Bool) (l:List V):(V.mk k t i r f l).norm=.mk k t i (A9 r) f (l.map V.norm):=by rw [V.norm,V.normL_map]
theorem kind_mark:∀k:Fin 15,1<=k.val->Ab (Bu k.val)=k.val:=by decide
theorem kind_of_mark {k:Int} (h:1<=k/\k<=14):(Ab (Bu k):Int)=k:=by
 have:=kind_mark ⟨k.toNat,by omega⟩ (by show 1<=k.toNat;omega);have e:((k.toNat:Nat):Int)=k:=by omega
 simp only at this;rw [e] at this;rw [this];exact e
theorem kind_eq {k:Int} (h:1<=k/\k<=14) {j:Nat} (hj:k=j):Ab (Bu k)=j:=by
 have:=kind_of_mark h;omega
theorem head_line {rp:Rp} {m:UInt8} {t z:List UInt8} {v:V} (h13:(13:UInt8) ∉ t) (h10:(10:UInt8) ∉ t) (hz:t.length<=4198)
  (hk:Ab m=1\/Ab m=2\/Ab m=9\/Ab m=3\/Ab m=7\/Ab m=8\/Ab m=6) (ho:Bm (rp t) (Ab m) ⟨t.toArray⟩=some v) (ok:okV v=true) :
  A0 rp (m :: (t++13 :: 10 :: z))=.leaf v (t.length+3):=by
 unfold A0;dsimp only;rw [if_neg (by omega),Fx h13 h10 hz];dsimp only;rw [if_neg (by omega),if_neg (by omega),if_neg (by omega),if_neg (by omega),ho];dsimp only;rw [if_pos ok,show 1+(t.length+2)=t.length+3 by omega]
theorem head_long {rp:Rp} {m:UInt8} {t z:List UInt8} (hz:t.length<=4096) (hk:Ab m=4\/Ab m=10\/Ab m=11) (ok:okV (Ar (Ab m) ⟨t.toArray⟩ 0 0 false)=true) :
  A0 rp (Fa m t++z)=.leaf (Ar (Ab m) ⟨t.toArray⟩ 0 0 false) (Fa m t).length:=by
 have hi:=itoa_le (n:=(t.length:Int)) (by omega) (by omega);have e:Fa m t++z=m :: (Lib.itoa (t.length:Int)++13 :: 10 :: (t++13 :: 10 :: z)):=by unfold Fa numL C0;simp
 have el:(Fa m t).length=1+((Lib.itoa (t.length:Int)).length+2)+(t.length+2):=by unfold Fa numL C0;simp;omega
 rw [e,el];unfold A0;dsimp only;rw [if_neg (by omega),Fx (Fu _) (D9 _) hi];dsimp only;rw [if_neg (fun h=>itoa_not_m1 _ h.1),if_pos hk,numS_itoa hz (by decide)];dsimp only
 rw [show (Lib.itoa (t.length:Int)++13 :: 10 :: (t++13 :: 10 :: z))=(Lib.itoa (t.length:Int)++[13,10])++(t++13 :: 10 :: z) by simp,
  show (Lib.itoa (t.length:Int)).length+2=(Lib.itoa (t.length:Int)++[13,10]).length by simp,List.drop_left,longS_got]
 dsimp only;rw [if_pos ok]
theorem head_list {rp:Rp} {m:UInt8} {n:Nat} {z:List UInt8} (hn:n<=1000) (hk:Ab m=5\/Ab m=13\/Ab m=14\/Ab m=12) :
  A0 rp (numL m (n:Int)++z)=.list (Ab m) (if Ab m=12 then 2 * n else n) (numL m (n:Int)).length:=by
 have hi:=itoa_le (n:=(n:Int)) (by omega) (by omega);have e:numL m (n:Int)++z=m :: (Lib.itoa (n:Int)++13 :: 10 :: z):=by unfold numL C0;simp
 have el:(numL m (n:Int)).length=1+((Lib.itoa (n:Int)).length+2):=by unfold numL C0;simp;omega
 rw [e,el];unfold A0;dsimp only;rw [if_neg (by omega),Fx (Fu _) (D9 _) hi];dsimp only;rw [if_neg (fun h=>itoa_not_m1 _ h.1),if_neg (by omega)];by_cases h12:Ab m=12
 ·rw [if_neg (by omega),if_pos h12,numS_itoa hn (by decide),if_pos h12,h12]
 ·rw [if_pos (by omega),numS_itoa hn (by decide),if_neg h12]
theorem ok7 (r r' : Nat) (h:okV (Ar 7 ⟨#[]⟩ 0 r false)=true):okV (Ar 7 ⟨#[]⟩ 0 r' false)=true:=h
theorem wire_leaf {rp:Rp} (hrp:RpOk rp) {v:V} (ho:okV v=true) (hr:v.ranged) (hl:v.kind=1\/v.kind=2\/v.kind=9\/v.kind=3\/v.kind=7\/v.kind=8\/v.kind=6) :
  ∃t,v.wire=C0 (Bu v.kind) t/\(13:UInt8) ∉ t/\(10:UInt8) ∉ t/\t.length<=4198/\(v.kind=7->rp.K t)/\Bm (rp t) v.kind.toNat ⟨t.toArray⟩=some v.norm/\okV v.norm=true:=by
 have oo:=ok_out ho;obtain ⟨k,t,i,r,f,l⟩:=v;have p:=oo.kind;have n:=oo.text;have g:=oo.int;have a:=oo.real;have b:=oo.flag;have o:=oo.list;have d := oo.line;have j:=oo.big;have q:=oo.size;rw [V.ranged_eq] at hr;obtain ⟨r1,r2,r3,_⟩:=hr;simp only [V.kind,V.text,V.int,V.real,V.flag,V.list] at p n g a b o d j q r1 r2 r3 hl ⊢;clear oo;have m:l=[]:=o (by omega);subst m;rw [norm_mk,List.map_nil];by_cases c1:k=1\/k=2\/k=9
 ·have hi:=g (by omega)
  have e:=Fp (a (by omega));have hf:=b (by omega);subst hi e hf;have hb:A9 0=0:=a (by omega);rw [hb];have fr:(13:UInt8) ∉ t.data.toList/\(10:UInt8) ∉ t.data.toList:=by
   by_cases c:k=9
   ·exact ⟨big_free (j c),big_free10 (j c)⟩
   ·exact ⟨crlf_free (d (by omega)),crlf_free10 (d (by omega))⟩
  refine ⟨t.data.toList,by rw [V.wire,if_pos c1],fr.1,fr.2,by have:=size_l' t;omega,fun h=>by omega,?_,ho⟩;unfold Bm;rw [if_pos (by omega),text_list,show ((k.toNat:Nat):Int)=k by omega];rfl
 have ht:=n (by omega);subst ht;by_cases c2:k=3
 ·subst c2
  have e:=Fp (a (by omega));have hf:=b (by omega);subst e hf;have hb:A9 0=0:=a (by omega);rw [hb];refine ⟨Lib.itoa i,by rw [V.wire,if_neg c1,if_pos rfl];rfl,Fu _,D9 _,itoa_le r1 r2,fun h=>by omega,?_,ho⟩;unfold Bm;rw [if_neg (by decide),if_pos (by decide)];have:wP (Lib.itoa i).toArray.toList=some i:=wP_iff.2 ⟨⟨r1,r2⟩,by simp⟩;rw [this];rfl
 have hi:=g c2;subst hi;by_cases c3:k=7
 ·subst c3
  have hf:=b (by omega);subst hf;refine ⟨Bs r,by rw [V.wire,if_neg c1,if_neg c2,if_pos rfl];rfl,real_free r3,real_free10 r3,by have:=text_len r3;omega,fun _=>hrp.known r r3,?_,ok7 r _ ho⟩;unfold Bm;rw [if_neg (by decide),if_neg (by decide),if_pos (by decide),hrp.reads r r3,bits_canon r3];rfl
 have e:=Fp (a c3);subst e;have hb:A9 0=0:=a c3;rw [hb];by_cases c4:k=8
 ·subst c4
  refine ⟨if f then [116] else [102],by rw [V.wire,if_neg c1,if_neg c2,if_neg c3,if_pos rfl];rfl,by cases f<;>decide,by cases f<;>decide,by cases f<;>decide,fun h=>by omega,?_,ho⟩;unfold Bm;rw [if_neg (by decide),if_neg (by decide),if_neg (by decide),if_pos (by decide)];cases f
  ·rw [if_neg (by decide),if_pos (by rfl)];rfl
  ·rw [if_pos (by rfl)];rfl
 have c5:k=6:=by omega
 subst c5;have hf:=b (by omega);subst hf;refine ⟨[],by rw [V.wire,if_neg c1,if_neg c2,if_neg c3,if_neg c4,if_pos rfl];rfl,by decide,by decide,by decide,fun h=>by omega,?_,ho⟩;unfold Bm;rw [if_neg (by decide),if_neg (by decide),if_neg (by decide),if_neg (by decide),if_pos (by rfl)];rfl
theorem wire_long {v:V} (ho:okV v=true) (hl:v.kind=4\/v.kind=10\/v.kind=11) :
  v.wire=Fa (Bu v.kind) v.text.data.toList/\v.norm=Ar v.kind v.text 0 0 false/\okV (Ar v.kind v.text 0 0 false)=true:=by
 have oo:=ok_out ho;obtain ⟨k,t,i,r,f,l⟩:=v;have c:=oo.int;have a:=oo.real;have d:=oo.flag;have e:=oo.list;simp only [V.kind,V.text,V.int,V.real,V.flag,V.list] at c a d e hl ⊢;clear oo;have b:l=[]:=e (by omega);have hi:=c (by omega);have g:=Fp (a (by omega));have hf:=d (by omega);subst b hi g hf;have hb:A9 0=0:=a (by omega);refine ⟨by rw [V.wire,if_neg (by omega),if_neg (by omega),if_neg (by omega),if_neg (by omega),if_neg (by omega),if_pos hl],by rw [norm_mk,hb];rfl,ho⟩
theorem wire_list {v:V} (ho:okV v=true) (hl:v.kind=5\/v.kind=12\/v.kind=13\/v.kind=14) :
  v.wire=numL (Bu v.kind) (C4 v.kind v.list.length)++V.wireL v.list/\v.norm=.mk v.kind ⟨#[]⟩ 0 0 false (v.list.map V.norm)/\(v.kind=12->v.list.length % 2=0)/\(v.kind=14->v.list.length≠0):=by
 have oo:=ok_out ho;obtain ⟨k,t,i,r,f,l⟩:=v;have b:=oo.text;have c:=oo.int;have a:=oo.real;have d:=oo.flag;have e:=oo.even;simp only [V.kind,V.text,V.int,V.real,V.flag,V.list] at b c a d e hl ⊢;clear oo;have ht:=b (by omega);have hi:=c (by omega);have g:=Fp (a (by omega));have hf:=d (by omega);subst ht hi g hf;have hb:A9 0=0:=a (by omega);refine ⟨by rw [V.wire,if_neg (by omega),if_neg (by omega),if_neg (by omega),if_neg (by omega),if_neg (by omega),if_neg (by omega),if_pos hl],by rw [norm_mk,hb],e,fun h14 h0=>?_⟩;subst h14;unfold okV B1 at ho;simp [V.kind,V.list,h0] at ho
theorem scan_wire {rp:Rp} (hrp:RpOk rp) (v:V):∀(lv many:Nat) (z:List UInt8),v.fine (lv:Int)=true->v.ranged->(v.kind=14->8<=lv)->many+v.count<=1001 ->
   At rp lv many (v.wire++z)=.got (v.norm,v.wire.length,many+v.count - 1)/\Dj rp lv many (v.wire++z):=by
 induction v using V.ind with
 | h v ih=>
 intro lv many z hf hr af hc;have hf0:=hf;rw [V.fine_eq,Bool.and_eq_true,Bool.and_eq_true] at hf;obtain ⟨⟨ho,p⟩,q⟩:=hf;have oo:=ok_out ho;have hk:=oo.kind;have a:Ab (Bu v.kind)=v.kind.toNat:=kind_eq hk (by omega);have i:=v.count_eq;by_cases hleaf:v.kind=1\/v.kind=2\/v.kind=9\/v.kind=3\/v.kind=7\/v.kind=8\/v.kind=6
 · obtain ⟨t,e1,r,s,hz,hK,hs,ok⟩:=wire_leaf hrp ho hr hleaf
   have d:v.list=[]:=oo.list (by omega);have g:v.count=1:=by rw [i,d];rfl
   rw [e1,lineL_app,D4,g];refine scan_head_leaf (head_line r s hz (by rw [a];omega) (by rw [a];exact hs) ok) (needH_line r s hz fun h7=>hK (by omega))
 by_cases hlong:v.kind=4\/v.kind=10\/v.kind=11
 · obtain ⟨e1,e2,ok⟩:=wire_long ho hlong
   have d:v.list=[]:=oo.list (by omega);have g:v.count=1:=by rw [i,d];rfl
   have f:((v.kind.toNat:Nat):Int)=v.kind:=by omega
   have hsz:=oo.size;rw [e1,e2,g];have hh:=head_long (rp:=rp) (m:=Bu v.kind) (t:=v.text.data.toList) (z:=z) (by have:=size_l' v.text;omega) (by rw [a];omega) (by rw [a,f,text_list];exact ok);rw [a,f,text_list] at hh;refine scan_head_leaf hh ?_;have e:Fa (Bu v.kind) v.text.data.toList++z=Bu v.kind :: (Lib.itoa (v.text.data.toList.length:Int)++13 :: 10 :: (v.text.data.toList++13 :: 10 :: z)):=by unfold Fa numL C0;simp
   rw [e];have hsl:=size_l' v.text;exact needH_line (Fu _) (D9 _) (itoa_le (by omega) (by omega)) fun h7=>by omega
 have b:v.kind=5\/v.kind=12\/v.kind=13\/v.kind=14:=by omega
 obtain ⟨e1,e2,ag,aa⟩:=wire_list ho b;have f:((v.kind.toNat:Nat):Int)=v.kind:=by omega
 have hlen:=V.length_le v.list;have ab:C4 v.kind v.list.length<=1000:=by unfold C4;split<;>omega
 obtain ⟨lv', rfl⟩:∃lv', lv=lv' + 1:=by
   cases lv with
   | zero=>
     have:Al v.kind=true:=by unfold Al;exact decide_eq_true b
     rw [this] at p;simp at p
   | succ k=>exact ⟨k,rfl⟩
 rw [V.ranged_eq] at hr;have ac:=hr.2.2.2
 have ad:∀(l:List V),(∀x∈l,x∈v.list)->V.fineL l ((lv' : Nat):Int)=true->V.rangedL l->∀(m:Nat) (z:List UInt8),m+V.countL l<=1000+l.length ->
     Bg (At rp lv') l.length m (V.wireL l++z)=.got (l.map V.norm,(V.wireL l).length,m+V.countL l - l.length)/\needN (Dj rp lv') (At rp lv') l.length m (V.wireL l++z):=by
   intro l
   induction l with
   | nil=>intro _ _ _ m z _;exact ⟨by simp [Bg,V.wireL,V.countL],trivial⟩
   | cons x l ihl=>
     intro hm h1 h2 m z hc;simp only [V.fineL,Bool.and_eq_true,decide_eq_true_eq] at h1;simp only [V.countL,List.length_cons] at hc ⊢;have hxp:=x.count_pos;have d:=V.length_le l;obtain ⟨a1,a2⟩:=ih x (hm x (List.mem_cons_self ..)) lv' m (V.wireL l++z) h1.1.2 h2.1 (fun h=>absurd h h1.1.1) (by omega);obtain ⟨b1,b2⟩:=ihl (fun y hy=>hm y (List.mem_cons_of_mem _ hy)) h1.2 h2.2 (m+x.count - 1) z (by omega);rw [V.wireL,List.append_assoc];refine ⟨?_,a2,fun v' u' m' e=>?_⟩
     · rw [Bg,a1]
       dsimp only;rw [List.drop_left,b1];dsimp only;rw [List.map_cons,List.length_append,show m+x.count - 1+V.countL l - l.length=m+(x.count+V.countL l) - (l.length+1) by omega]
     · rw [a1] at e
       simp only [Out.got.injEq,Prod.mk.injEq] at e;rw [<-e.2.1,<-e.2.2,List.drop_left];exact b2
 have j : V.fineL v.list ((lv' : Nat):Int)=true:=by
   rw [show ((lv' + 1:Nat):Int) - 1=(lv' : Int) by omega] at q;exact q
 obtain ⟨k1,k2⟩:=ad v.list (fun _ h=>h) j ac (many+v.list.length) z (by omega);have hh:=head_list (rp:=rp) (m:=Bu v.kind) (n:=C4 v.kind v.list.length) (z:=V.wireL v.list++z) ab (by rw [a];omega);have hN:(if Ab (Bu v.kind)=12 then 2 * C4 v.kind v.list.length else C4 v.kind v.list.length)=v.list.length:=by
   rw [a];by_cases c:v.kind=12
   · have:=ag c
     rw [if_pos (by omega),C4,if_pos c];omega
   · rw [if_neg (by omega),C4,if_neg c]
 rw [hN,a] at hh;rw [e1,e2,List.append_assoc];have ae:needH rp (numL (Bu v.kind) (C4 v.kind v.list.length:Nat)++(V.wireL v.list++z)):=by
   unfold numL;rw [lineL_app];exact needH_line (Fu _) (D9 _) (itoa_le (by omega) (by omega)) fun h7=>by omega
 refine ⟨?_,ae,fun kd n u e=>?_⟩
 · rw [At,hh]
   dsimp only;rw [if_neg (by
     rintro (h | ⟨h,h'⟩)
     · omega
     · have o:v.kind=14:=by omega
       rcases h' with h' | h'
       · exact aa o h'
       · have:=af o;omega)]
   rw [List.drop_left,k1];dsimp only;rw [f,List.length_append];congr 3;omega
 · rw [hh] at e
   simp only [Head.list.injEq] at e;rw [<-e.2.1,<-e.2.2,List.drop_left];exact k2
end Go.Proofs.YtagkgfniihiinaaGreatDoor
namespace Go.Proofs.YtagkgfniihiinaaGreatDoor
open Go.RowKit
theorem index_or:∀{t:List UInt8} {c:UInt8} (z:List UInt8),c ∉ t->Lib.indexByte (t++z) c=-1\/(t.length:Int)<=Lib.indexByte (t++z) c
 | [],c,z,_=>by
  have:=Lib.indexByte_ge z c;simp only [List.nil_append,List.length_nil];omega
 | b :: t,c,z,h=>by
  have ih:=index_or (t:=t) z (fun hc=>h (List.mem_cons_of_mem _ hc));have hbc:¬b=c:=fun e=>h (by rw [e];exact List.mem_cons_self);rw [List.cons_append,Lib.indexByte];have hbf:(b == c)=false:=by simpa using hbc
  rw [hbf];simp only [Bool.false_eq_true,if_false];split
  ·exact .inl rfl
  ·rename_i h1
   have h1' : ¬Lib.indexByte (t++z) c=-1:=by simpa using h1
   right;rw [List.length_cons];omega
def lineA (o:Out (List UInt8 × Nat)):Ending:=match o with
 | .got p=>.returned (.tuple #[.string ⟨p.1.toArray⟩,.int .i64 (p.2:Int),.int .i64 0])
 | .stop e=>.returned (.tuple #[.string ⟨#[]⟩,.int .i64 0,.int .i64 (if e=51 then 2 else 1)])
structure LineI (L:List UInt8) (i:Nat):Prop where
 le:i<=L.length
 most:i<=4200
 no10:(10:UInt8) ∉ L.take i
 no13:(13:UInt8) ∉ L.take (i - 1)
theorem take_at {L:List UInt8} {i:Nat} (h:i<L.length) (m:Nat) (hm:i<m):L.take m=L.take i++L[i] :: (L.take m).drop (i+1):=by
 have h1:i<(L.take m).length:=by rw [List.length_take];omega
 have h2:=List.take_append_drop i (L.take m);rw [List.drop_eq_getElem_cons h1,List.getElem_take,List.take_take,Nat.min_eq_left (by omega)] at h2;exact h2.symm
theorem no13_all {L:List UInt8} {i:Nat} (h:LineI L i) (hp:∀k,i=k+1->L[k]?≠some 13):(13:UInt8) ∉ L.take i:=by
 cases i with
 | zero=>simp
 | succ k=>
  have hk:k<L.length:=by have:=h.le;omega
  rw [List.take_add_one,List.getElem?_eq_getElem hk];intro hm;rcases List.mem_append.1 hm with hm | hm
  ·exact h.no13 hm
  ·have h1:=hp k rfl
   rw [List.getElem?_eq_getElem hk] at h1;simp only [Option.toList_some,List.mem_singleton] at hm;rw [<-hm] at h1;exact h1 rfl
theorem line_there {L:List UInt8} {k:Nat} (h:LineI L (k+1)) (hk:k+1<L.length) (hm:k+1<4200) (h13:L[k]'(by omega)=13) (h10:L[k+1]=10):Az L=.got (L.take k,k+2):=by
 have e:L=L.take k++13 :: 10 :: L.drop (k+2):=by
  conv=>lhs;rw [<-List.take_append_drop k L]
  rw [List.drop_eq_getElem_cons (by omega),List.drop_eq_getElem_cons (by omega),h13,h10]
 have hl:(L.take k).length=k:=by rw [List.length_take];omega
 have h1:(10:UInt8) ∉ L.take k:=fun hh=>h.no10 (by rw [List.take_add_one];exact List.mem_append_left _ hh);have h2:=Fx (t:=L.take k) (z:=L.drop (k+2)) h.no13 h1 (by omega);rw [<-e,hl] at h2;exact h2
theorem line_bad1 {L:List UInt8} {i:Nat} (h:LineI L i) (hi:i<L.length) (hm:i<4200) (h10:L[i]=10) (hp:∀k,i=k+1->L[k]?≠some 13):Az L=.stop 51:=by
 have a:=no13_all h hp;have e:=take_at hi 4200 hm;have hl:(L.take i).length=i:=by rw [List.length_take];omega
 have n1:Lib.indexByte (L.take 4200) 10=(i:Int):=by
  rw [e,h10,index_at _ h.no10,hl]
 have n2:Lib.indexByte (L.take 4200) 13=-1\/(i:Int)<=Lib.indexByte (L.take 4200) 13:=by
  have:=index_or (t:=L.take i) (L[i] :: (L.take 4200).drop (i+1)) a;rw [<-e,hl] at this;exact this
 unfold Az;dsimp only;rw [n1,if_pos (by omega)]
theorem line_bad2 {L:List UInt8} {k:Nat} (h:LineI L (k+1)) (hk:k+1<L.length) (hm:k+1<4200) (h13:L[k]'(by omega)=13) (h10:L[k+1]≠10):Az L=.stop 51:=by
 have e:=take_at (i:=k) (L:=L) (by omega) 4200 (by omega);have hl:(L.take k).length=k:=by rw [List.length_take];omega
 have n1:Lib.indexByte (L.take 4200) 13=(k:Int):=by
  have a:=h.no13;rw [Nat.add_sub_cancel] at a;rw [e,h13,index_at _ a,hl]
 have e2:=take_at (i:=k+1) (L:=L) hk 4200 hm;have b:(L.take (k+1)).length=k+1:=by rw [List.length_take];omega
 have n2:Lib.indexByte (L.take 4200) 10=-1\/(k:Int)+2<=Lib.indexByte (L.take 4200) 10:=by
  have a:(10:UInt8) ∉ L.take (k+1)++[L[k+1]]:=fun hh=>by
   rcases List.mem_append.1 hh with hh | hh
   ·exact h.no10 hh
   ·simp only [List.mem_singleton] at hh
    exact h10 hh.symm
  have:=index_or ((L.take 4200).drop (k+1+1)) a;rw [List.append_assoc,List.singleton_append,<-e2,List.length_append,b,List.length_singleton] at this;omega
 have hR:((L.take 4200).length:Int) ≥ (k:Int)+2:=by rw [List.length_take];omega
 unfold Az;dsimp only;rw [n1,if_pos (by omega)]
theorem line_end {L:List UInt8} {i:Nat} (h:LineI L i) (hi:i=L.length\/i=4200):Az L=.stop (if 4200<=L.length then 51 else 0):=by
 have hle:=h.le;have hm:=h.most;have e:L.take 4200=L.take i:=by
  rcases hi with hi | hi
  ·rw [hi,List.take_of_length_le (Nat.le_refl _),List.take_of_length_le (by omega)]
  ·rw [hi]
 have hl:(L.take i).length=i:=by rw [List.length_take];omega
 have n1:Lib.indexByte (L.take i) 10=-1:=index_no h.no10;have n2:Lib.indexByte (L.take i) 13=-1\/(i:Int) - 1<=Lib.indexByte (L.take i) 13:=by
  have a:(L.take (i - 1)).length=i - 1:=by rw [List.length_take];omega
  have:=index_or (t:=L.take (i - 1)) ((L.take i).drop (i - 1)) h.no13;have e3:L.take (i - 1)++(L.take i).drop (i - 1)=L.take i:=by
   have h3:=List.take_append_drop (i - 1) (L.take i);rw [List.take_take,Nat.min_eq_left (by omega)] at h3;exact h3
  rw [e3,a] at this;omega
 unfold Az;dsimp only;rw [e,n1,hl];by_cases h4:4200<=L.length
 ·rw [if_pos (by omega),if_pos h4]
 ·rw [if_neg (by omega),if_pos (by omega),if_neg h4]
theorem LineI.next {L:List UInt8} {i:Nat} (h:LineI L i) (hi:i<L.length) (hm:i<4200) (h10:L[i]≠10) (hp:∀k,i=k+1->L[k]?≠some 13):LineI L (i+1):=by
 refine ⟨by omega,by omega,fun hh=>?_,by rw [Nat.add_sub_cancel];exact no13_all h hp⟩;rw [List.take_add_one,List.getElem?_eq_getElem hi] at hh;rcases List.mem_append.1 hh with hh | hh
 ·exact h.no10 hh
 ·simp only [Option.toList_some,List.mem_singleton] at hh
  exact h10 hh.symm
theorem get_list {s:ByteArray} {j:Nat} (h:j<s.size):∃hj:j<s.data.toList.length,s.data.toList[j]'hj=s[j]'h:=by
 have hj:j<s.data.toList.length:=by rw [Array.length_toList];exact h
 have h1:=Lib.data_getElem? s j h;rw [List.getElem?_eq_getElem hj] at h1;exact ⟨hj,Option.some.inj h1⟩
theorem D2 {s:ByteArray} (hs:s.size<=1000000) (w:World):Calls Tryz.prog 73 #[.string s] w fun e w' => e=lineA (Az s.data.toList)/\w' = w:=by
 obtain ⟨A,hA⟩:∃A,A=Az s.data.toList:=⟨_,rfl⟩;rw [<-hA];have f:s.data.toList.length=s.size:=by rw [Array.length_toList];rfl
 replace hA:=Hd hA;replace f:=Hd f
 go_enter Tryz.func73,Tryz.ntmps73
 go_wp2_with fail
 go_loop [5] (fun s5=>∃i:Nat,s5=.int .i64 (i:Int)/\LineI s.data.toList i) (fun s5=>s.size - (intOf s5).toNat)
 case atStart=>exact ⟨0,rfl,⟨Nat.zero_le _,by omega,by simp,by simp⟩⟩
 case round=>
  obtain ⟨i,rfl,hl⟩:=hrel;by_cases hlt:i<s.size
  ·have j:(i:Int)<(s.size:Int):=by omega
   by_cases h4:i<4200
   ·have n:(i:Int)<4200:=by omega
    obtain ⟨c,hcc⟩:∃c,s[i]'hlt=c:=⟨_,rfl⟩;obtain ⟨hj,a⟩:=get_list hlt;rw [hcc] at a;by_cases h0:i=0
    ·have hp:∀k,i=k+1->s.data.toList[k]?≠some 13:=fun k hk=>by omega
     by_cases h10:c=10
     ·have hb:=line_bad1 hl hj h4 (by rw [a];exact h10) hp
      rw [<-hA.out] at hb;have g:((c.toNat:Int) == 10)=true:=by rw [h10];rfl
      subst h0;replace hb:=Hd hb;clear hl a h10 hp;go_wp2;refine bodyPost_ret (v:=.tuple #[.string ⟨#[]⟩,.int .i64 0,.int .i64 2]) (by simp [results,Tryz.results73,go_sem]) rfl ⟨by rw [hb.out];rfl,rfl⟩
     ·have hn:=hl.next hj h4 (by rw [a];exact h10) hp
      have g:((c.toNat:Int) == 10)=false:=by
       rw [beq_eq_false_iff_ne];intro e;exact h10 (UInt8.toNat_inj.1 (by show c.toNat=10;omega))
      subst h0;replace hn:=Hd hn;clear hl a h10 hp;go_wp2_with fail
      go_round
      case rel=>exact ⟨1,rfl,hn.out⟩
      case measure=>simp [intOf];omega
    ·obtain ⟨k,rfl⟩:∃k,i=k+1:=⟨i - 1,by omega⟩
     have h0i:(0:Int)<((k+1:Nat):Int):=by omega
     have l:k<s.size:=by omega
     obtain ⟨d,hdd⟩:∃d,s[k]'l=d:=⟨_,rfl⟩;obtain ⟨p,b⟩:=get_list l;rw [hdd] at b;have hw1:IntKind.i64.wrap (((k+1:Nat):Int) - 1)=(k:Int):=by rw [IntWalk.i64_in _ (by omega)];omega
     have hw2:((k+1:Nat):Int) - 1=(k:Int):=by omega
     by_cases h13:d=13
     ·have o:((d.toNat:Int) == 13)=true:=by rw [h13];rfl
      by_cases h10:c=10
      ·have hb:=line_there hl hj h4 (by rw [b];exact h13) (by rw [a];exact h10)
       rw [<-hA.out] at hb;have g:((c.toNat:Int) == 10)=true:=by rw [h10];rfl
       have hx:s.extract 0 k=⟨(s.data.toList.take k).toArray⟩:=ByteArray.ext (Array.ext' (by rw [ByteArray.data_extract,Array.toList_extract,List.extract_eq_take_drop,List.drop_zero,Nat.sub_zero]));replace hb:=Hd hb;replace hx:=Hd hx;clear hl a b h10 h13;go_wp2;refine bodyPost_ret (v:=.tuple #[.string (s.extract 0 k),.int .i64 ((k+2:Nat):Int),.int .i64 0]) (by simp [results,Tryz.results73,go_sem];omega) rfl ⟨by rw [hb.out,hx.out];rfl,rfl⟩
      ·have hb:=line_bad2 hl hj h4 (by rw [b];exact h13) (by rw [a];exact h10)
       rw [<-hA.out] at hb;have g:((c.toNat:Int) == 10)=false:=by
        rw [beq_eq_false_iff_ne];intro e;exact h10 (UInt8.toNat_inj.1 (by show c.toNat=10;omega))
       replace hb:=Hd hb;clear hl a b h10 h13;go_wp2;refine bodyPost_ret (v:=.tuple #[.string ⟨#[]⟩,.int .i64 0,.int .i64 2]) (by simp [results,Tryz.results73,go_sem]) rfl ⟨by rw [hb.out];rfl,rfl⟩
     ·have hp:∀q,k+1=q+1->s.data.toList[q]?≠some 13:=fun q hq=>by
       obtain rfl:k=q:=by omega
       rw [List.getElem?_eq_getElem p,b];exact fun e=>h13 (Option.some.inj e)
      have o:((d.toNat:Int) == 13)=false:=by
       rw [beq_eq_false_iff_ne];intro e;exact h13 (UInt8.toNat_inj.1 (by show d.toNat=13;omega))
      by_cases h10:c=10
      ·have hb:=line_bad1 hl hj h4 (by rw [a];exact h10) hp
       rw [<-hA.out] at hb;have g:((c.toNat:Int) == 10)=true:=by rw [h10];rfl
       replace hb:=Hd hb;clear hl a b h10 h13 hp;go_wp2;refine bodyPost_ret (v:=.tuple #[.string ⟨#[]⟩,.int .i64 0,.int .i64 2]) (by simp [results,Tryz.results73,go_sem]) rfl ⟨by rw [hb.out];rfl,rfl⟩
      ·have hn:=hl.next hj h4 (by rw [a];exact h10) hp
       have g:((c.toNat:Int) == 10)=false:=by
        rw [beq_eq_false_iff_ne];intro e;exact h10 (UInt8.toNat_inj.1 (by show c.toNat=10;omega))
       replace hn:=Hd hn;clear hl a b h10 h13 hp;go_wp2_with fail
       go_round
       case rel=>exact ⟨k+1+1,by first | rfl | (congr 1;omega),hn.out⟩
       case measure=>simp [intOf];omega
   ·have n:¬(i:Int)<4200:=by omega
    have hb:=line_end hl (.inr (by have:=hl.most;omega));have h:(4200:Int)<=(s.size:Int):=by omega
    rw [f.out,if_pos (by omega),<-hA.out] at hb;replace hb:=Hd hb;clear hl;go_wp2;refine bodyPost_ret (v:=.tuple #[.string ⟨#[]⟩,.int .i64 0,.int .i64 2]) (by simp [results,Tryz.results73,go_sem]) rfl ⟨by rw [hb.out];rfl,rfl⟩
  ·have j:¬(i:Int)<(s.size:Int):=by omega
   have hb:=line_end hl (.inl (by have:=hl.le;have:=f.out;omega));rw [f.out,<-hA.out] at hb;by_cases h:4200<=s.size
   ·rw [if_pos h] at hb
    have m:(4200:Int)<=(s.size:Int):=by omega
    replace hb:=Hd hb;clear hl;go_wp2;refine bodyPost_ret (v:=.tuple #[.string ⟨#[]⟩,.int .i64 0,.int .i64 2]) (by simp [results,Tryz.results73,go_sem]) rfl ⟨by rw [hb.out];rfl,rfl⟩
   ·rw [if_neg h] at hb
    have m:¬(4200:Int)<=(s.size:Int):=by omega
    replace hb:=Hd hb;clear hl;go_wp2;refine bodyPost_ret (v:=.tuple #[.string ⟨#[]⟩,.int .i64 0,.int .i64 1]) (by simp [results,Tryz.results73,go_sem]) rfl ⟨by rw [hb.out];rfl,rfl⟩
def numI (t:List UInt8) (most:Nat):Int:=match numS t most with | some k=>(k:Int) | none=>-1
theorem Ff {w:World} {t:ByteArray} {most:Nat} (ht:t.size<=1000000) (hm:most<=100000) :
  Calls Tryz.prog 74 #[.string t,.int .i64 (most:Int)] w fun e w' => e=.returned (.int .i64 (numI t.data.toList most))/\Below w.heap.size w w' := by
 have hp:=parse01_any t (by omega) w;unfold numI numS;cases hw:wP t.data.toList with
 | none=>
  rw [hw] at hp;have a:Calls Tryz.prog 91 #[.string t] w fun e w' => e=.returned (.tuple #[.int .i64 0,.int .i64 11])/\Below w.heap.size w w' := hp;clear hp hw;replace a:=Hd a
  go_enter Tryz.func74,Tryz.ntmps74
  go_wp2_with fail
  refine a.out.mono ?_;rintro e w' ⟨rfl,hb⟩;go_wp2;go_ret;exact ⟨rfl,hb⟩
 | some v=>
  rw [hw] at hp;have a:Calls Tryz.prog 91 #[.string t] w fun e w' => e=.returned (.tuple #[.int .i64 v,.int .i64 0])/\Below w.heap.size w w' := hp;have hv:=(wP_iff.1 hw).1;clear hp hw;replace a:=Hd a;dsimp only;by_cases h1:v<0
  ·rw [if_neg (by omega)]
   go_enter Tryz.func74,Tryz.ntmps74
   go_wp2_with fail
   refine a.out.mono ?_;rintro e w' ⟨rfl,hb⟩;go_wp2;go_ret;exact ⟨rfl,hb⟩
  ·by_cases h2:(most:Int)<v
   ·rw [if_neg (by omega)]
    go_enter Tryz.func74,Tryz.ntmps74
    go_wp2_with fail
    refine a.out.mono ?_;rintro e w' ⟨rfl,hb⟩;go_wp2;go_ret;exact ⟨rfl,hb⟩
   ·rw [if_pos ⟨by omega,by omega⟩]
    have h3:IntKind.i64.wrap v=v:=IntWalk.i64_in _ hv;obtain ⟨k,rfl⟩:∃k:Nat,v=(k:Int):=⟨v.toNat,by omega⟩
    go_enter Tryz.func74,Tryz.ntmps74
    go_wp2_with fail
    refine a.out.mono ?_;rintro e w' ⟨rfl,hb⟩;go_wp2;go_ret;exact ⟨by simp,hb⟩
def Fj:List UInt8:=[43,45,58,36,42,95,44,35,40,33,61,37,126,62]
theorem kind_at:∀(j:Fin 14) (c:UInt8),Fj[j.val]?=some c->Ab c=j.val+1:=by
 intro j c h;have h1:∀j:Fin 14,∀c:UInt8,Fj[j.val]?=some c->c=Fj.getD j.val 0:=fun j c h=>by rw [List.getD_eq_getElem?_getD,h];rfl
 rw [h1 j c h];revert j;have h2:∀j:Fin 14,Ab (Fj.getD j.val 0)=j.val+1:=by decide
 intro j _;exact h2 j
theorem kind_none {c:UInt8} (h:∀j,j<14->Fj[j]?≠some c):Ab c=0:=by
 unfold Ab;have k:∀j,j<14->c≠Fj.getD j 0:=fun j hj e=>h j hj (by rw [List.getD_eq_getElem?_getD] at e;rw [e];have:j<Fj.length:=hj;rw [List.getElem?_eq_getElem this];rfl);rw [if_neg (show c≠43 from k 0 (by decide)),if_neg (show c≠45 from k 1 (by decide)),if_neg (show c≠58 from k 2 (by decide)),if_neg (show c≠36 from k 3 (by decide)),if_neg (show c≠42 from k 4 (by decide)),if_neg (show c≠95 from k 5 (by decide)),if_neg (show c≠44 from k 6 (by decide)),if_neg (show c≠35 from k 7 (by decide)),if_neg (show c≠40 from k 8 (by decide)),if_neg (show c≠33 from k 9 (by decide)),if_neg (show c≠61 from k 10 (by decide)),if_neg (show c≠37 from k 11 (by decide)),if_neg (show c≠126 from k 12 (by decide)),if_neg (show c≠62 from k 13 (by decide))]
theorem Dg (c:UInt8) (w:World):Calls Tryz.prog 72 #[.int .u8 (c.toNat:Int)] w fun e w' => e=.returned (.int .i64 (Ab c:Int))/\w' = w:=by
 obtain ⟨K,hK⟩:∃K,K=Ab c:=⟨_,rfl⟩;rw [<-hK];obtain ⟨M,hM⟩:∃M:ByteArray,M=⟨#[43,45,58,36,42,95,44,35,40,33,61,37,126,62]⟩:=⟨_,rfl⟩;have hMz:M.size=14:=by rw [hM];rfl
 have b:∀(i:Nat) (h:i<M.size),Fj[i]?=some (M[i]'h):=fun i h=>by
  have h1:=Lib.data_getElem? M i h;rw [<-h1,hM];rfl
 replace hK:=Hd hK;replace b:=Hd b
 go_enter Tryz.func72,Tryz.ntmps72
 go_wp2_with fail
 rw [<-hM];have hMzi:(M.size:Int)=14:=by omega
 clear hM
 go_loop [4] (fun s4=>∃i:Nat,i<=14/\s4=.int .i64 (i:Int)/\∀j,j<i->Fj[j]?≠some c) (fun s4=>14 - (intOf s4).toNat)
 case atStart=>exact ⟨0,by omega,rfl,fun j h=>by omega⟩
 case round=>
  obtain ⟨i,hi,rfl,hl⟩:=hrel;by_cases hlt:i<M.size
  ·have k:(i:Int)<(M.size:Int):=by omega
   obtain ⟨d,hdd⟩:∃d,M[i]'hlt=d:=⟨_,rfl⟩;have a:=b.out i hlt;rw [hdd] at a;by_cases he:d=c
   ·have f:K=i+1:=by
     rw [hK.out];exact kind_at ⟨i,by omega⟩ c (by rw [<-he];exact a)
    have l:((d.toNat:Int) == (c.toNat:Int))=true:=by rw [he,beq_iff_eq]
    replace f:=Hd f;clear hl a he;go_wp2;go_ret;exact ⟨by rw [f.out];rfl,rfl⟩
   ·have l:((d.toNat:Int) == (c.toNat:Int))=false:=by
     rw [beq_eq_false_iff_ne];intro e;exact he (UInt8.toNat_inj.1 (by omega))
    have hn:∀j,j<i+1->Fj[j]?≠some c:=fun j hj=>by
     rcases Nat.lt_succ_iff_lt_or_eq.1 hj with h | h
     ·exact hl j h
     ·rw [h,a];exact fun e=>he (Option.some.inj e)
    replace hn:=Hd hn;clear hl a he;go_wp2_with fail
    go_round
    case rel=>exact ⟨i+1,by omega,by first | rfl | (congr 1),hn.out⟩
    case measure=>simp [intOf];omega
  ·have k:¬(i:Int)<(M.size:Int):=by omega
   have g:K=0:=by
    rw [hK.out];exact kind_none fun j hj=>hl j (by omega)
   replace g:=Hd g;clear hl;go_wp2;go_ret;exact ⟨by rw [g.out];rfl,rfl⟩
