/- The reader at the bytes of a value: that value; at each beginning of them: nothing yet (plain). -/
import Derived.Test.YtagkgfniihiinaaGreatDoorJ83
import Derived.Test.YtagkgfniihiinaaGreatDoorJ60
import Derived.Lib.IndexLaws
import Derived.Test.YtagkgfniihiinaaGreatDoorJ52
import Derived.ProofKit
import Derived.OpenShut
import Derived.ShutString
import Derived.ChangeOld
import Derived.Deep.Slices
import Derived.Deep.Fields
import Derived.ChangeSame
import Derived.Test.YtagkgfniihiinaaGreatDoorJ86
import Derived.Test.YtagkgfniihiinaaGreatDoorJ64
import Derived.Test.YtagkgfniihiinaaGreatDoorJ33
import Derived.Test.YtagkgfniihiinaaGreatDoorJ5
import Derived.Test.YtagkgfniihiinaaGreatDoorJ32
import Derived.Test.YtagkgfniihiinaaGreatDoorJ87
import Derived.Lib.ItoaNum
import Derived.Lib.ItoaLen
import Derived.Lib.SmallJoins
import Derived.Test.YtagkgfniihiinaaGreatDoorNums
import Derived.LaidMore
import Derived.LaidSub
import Derived.LaidLaws
import Derived.Lib.LaidTab
import Derived.Stop.LaidErr
import Derived.Lay
import Derived.Test.YtagkgfniihiinaaGreatDoorJ35
import Derived.Test.YtagkgfniihiinaaGreatDoorJ66
import Derived.Test.YtagkgfniihiinaaGreatDoorJ21
import Derived.Test.YtagkgfniihiinaaGreatDoorProg
import Derived.Laws.LoneSync
import Derived.Test.YtagkgfniihiinaaGreatDoorJ70
import Derived.Defers
import Derived.Tactics2
import Derived.Lib.OthersKept
import Derived.Deep.WholeRow
import Derived.Deep.LoopGhost
import Derived.Lib.ConvBytes
import Derived.Lib.SlBytesRow
import Derived.ChangeSlices
import Derived.Shelf.Bytes.SlSmallAll
import Derived.Laws.IdiomStrings
import Derived.Test.YtagkgfniihiinaaGreatDoorSame03
set_option linter.all false
namespace Go.Proofs.YtagkgfniihiinaaGreatDoor
theorem dec_free10 (u:Nat):(10:UInt8) ∉ Lib.decDigits u:=fun h=>absurd (Dk u _ h) (by decide)
theorem D0 (n:Int):(10:UInt8) ∉ Lib.itoa n:=by
 unfold Lib.itoa;split
 · intro h
   rcases List.mem_cons.1 h with h | h
   · exact absurd h (by decide)
   · exact dec_free10 _ h
 · exact dec_free10 _
theorem real_free10 {r:Nat} (h:r<18446744073709551616):(10:UInt8) ∉ Bl r:=by
 cases hnan:nanF r with
 | true=>rw [Eh hnan];decide
 | false=>
   rw [C5 hnan];have hb:=Dd hnan;intro hm;rcases List.mem_append.1 hm with hm | hm
   · unfold A3 at hm
     split at hm
     · rw [List.mem_singleton] at hm;exact absurd hm (by decide)
     · cases hm
   · rcases Nat.eq_or_lt_of_le hb with h1 | h1
     · rw [h1] at hm
       unfold Br at hm;rw [if_pos rfl] at hm;exact absurd hm (by decide)
     · rcases Nat.eq_zero_or_pos (r % 9223372036854775808) with h0 | h0
       · rw [h0,Dr] at hm;exact absurd hm (by decide)
       · obtain ⟨_,d,L,m,x,hR⟩:=Cn (s:=⟨(Br (r % 9223372036854775808)).toArray⟩) (neg:=false) h0 h1 rfl
         obtain ⟨⟨c,b,rest,e1,_,_,_,e5⟩,_,_⟩:=hR.txt;have e6:Br (r % 9223372036854775808)=c :: b:=e1;rw [e6] at hm;rcases e5 10 hm with h | h | h | h | h
         · exact absurd h (by decide)
         all_goals exact absurd h (by decide)
theorem crlf_free10 {t:ByteArray} (h:Et t=false):(10:UInt8) ∉ t.data.toList:=by
 intro hm;unfold Et Lib.containsAny at h;rw [decide_eq_false_iff_not] at h;refine h ?_;have key:∀(l:List UInt8),(10:UInt8)∈l->0<=Lib.indexAny l [13,10]:=by
   intro l;induction l with
   | nil=>intro h;cases h
   | cons b l ih=>
     intro h;unfold Lib.indexAny;split
     · exact Int.le_refl _
     · rename_i hb
       rcases List.mem_cons.1 h with h | h
       · subst h;exact absurd (by decide) hb
       · have:=ih h
         split
         · rename_i h2
           have h3:=beq_iff_eq.1 h2;omega
         · omega
 exact key _ hm
theorem big_free10 {t:ByteArray} (h:bigB t=true):(10:UInt8) ∉ t.data.toList:=by
 rw [bigB_eq,Bool.and_eq_true,List.all_eq_true] at h;intro hm;have hd:=h.2;unfold Ey at hd;have n13:digB 10=false:=by decide
 split at hd
 · rename_i h45
   cases hl:t.data.toList with
   | nil=>rw [hl] at hm;cases hm
   | cons c l=>
     rw [hl] at hm hd h45;rcases List.mem_cons.1 hm with h1 | h1
     · rw [List.head?_cons] at h45
       have:=Option.some.inj h45;rw [<-h1] at this;exact absurd this (by decide)
     · have:=hd 10 (by simpa using h1)
       rw [n13] at this;cases this
 · have:=hd 10 (by simpa using hm)
   rw [n13] at this;cases this
theorem index_at:∀{t:List UInt8} {c:UInt8} (z:List UInt8),c ∉ t->Lib.indexByte (t++c :: z) c=(t.length:Int)
 | [],c,z,_=>by
   show Lib.indexByte (c :: z) c=0;unfold Lib.indexByte;rw [if_pos (by simp)]
 | x :: t,c,z,h=>by
   have hx:¬(x == c)=true:=fun e=>h (by rw [beq_iff_eq.1 e];exact List.mem_cons_self ..);have ih:=index_at (t:=t) z (fun hm=>h (List.mem_cons_of_mem _ hm));rw [List.cons_append];unfold Lib.indexByte;rw [if_neg hx,ih,if_neg (by simp),List.length_cons];omega
theorem Gm {t z:List UInt8} (h13:(13:UInt8) ∉ t) (h10:(10:UInt8) ∉ t) (hz:t.length<=4198):A7 (t++13 :: 10 :: z)=.got (t,t.length+2):=by
 obtain ⟨z', hR⟩:∃z', (t++13 :: 10 :: z).take 4200=t++13 :: 10 :: z' := by
   refine ⟨z.take (4200 - t.length - 2),?_⟩;rw [List.take_append,List.take_of_length_le (by omega)];congr 1;obtain ⟨k,hk⟩:∃k,4200 - t.length=k+2:=⟨4200 - t.length - 2,by omega⟩;rw [hk,List.take_succ_cons,List.take_succ_cons,show k+2 - 2=k by omega]
 have e1:Lib.indexByte (t++13 :: 10 :: z') 13=(t.length:Int):=index_at _ h13;have e2:Lib.indexByte (t++13 :: 10 :: z') 10=((t.length+1:Nat):Int):=by
   have:=index_at (t:=t++[13]) (c:=10) z' (fun hm=>by
     rcases List.mem_append.1 hm with hm | hm
     · exact h10 hm
     · rw [List.mem_singleton] at hm;exact absurd hm (by decide))
   rw [List.append_assoc,List.length_append] at this;exact this
 unfold A7;rw [hR];dsimp only;rw [e1,e2,if_neg (by omega),if_neg (by omega)];congr 2
 · rw [show (((t.length+1:Nat):Int) - 1).toNat=t.length by omega,List.take_left]
theorem longS_got {t z:List UInt8}:Cg (t++13 :: 10 :: z) t.length=.got t:=by
 unfold Cg;have e1:(t++13 :: 10 :: z).getD t.length 0=13:=by simp [List.getD]
 have e2:(t++13 :: 10 :: z).getD (t.length+1) 0=10:=by simp [List.getD]
 rw [e1,e2,if_neg (by simp),if_neg (by simp),List.take_left]
theorem getD_app {p q:List UInt8} {k:Nat} (h:k<p.length):p.getD k 0=(p++q).getD k 0:=by
 simp only [List.getD];rw [List.getElem?_append_left h]
theorem scan_head_stop {rp:Rp} {lv many:Nat} {L:List UInt8} {q:Nat} (h:A8 rp L=.stop q) (hn:needH rp L):Aq rp lv many L=.stop q/\Cz rp lv many L:=by
 cases lv with
 | zero=>exact ⟨by rw [Aq,h],hn⟩
 | succ lv=>exact ⟨by rw [Aq,h],hn,fun kd n u e=>by rw [h] at e;cases e⟩
theorem Gd {rp:Rp} {lv many u:Nat} {L:List UInt8} {v:V} (h:A8 rp L=.leaf v u) (hn:needH rp L):Aq rp lv many L=.got (v,u,many)/\Cz rp lv many L:=by
 cases lv with
 | zero=>exact ⟨by rw [Aq,h],hn⟩
 | succ lv=>exact ⟨by rw [Aq,h],hn,fun kd n u e=>by rw [h] at e;cases e⟩
theorem scan_nil {rp:Rp} {lv many:Nat}:Aq rp lv many []=.stop 0/\Cz rp lv many []:=
 scan_head_stop rfl (fun c L t u e=>by cases e)
theorem lineL_app (m:UInt8) (t z:List UInt8):Cr m t++z=m :: (t++13 :: 10 :: z):=by unfold Cr;simp
theorem needH_line {rp:Rp} {m:UInt8} {t z:List UInt8} (h13:(13:UInt8) ∉ t) (h10:(10:UInt8) ∉ t) (hz:t.length<=4198) (hK:Ac m=7->rp.K t):needH rp (m :: (t++13 :: 10 :: z)):=by
 intro c L' t' u e hk hl;obtain ⟨e1,e2⟩:=List.cons.inj e;rw [<-e2,Gm h13 h10 hz] at hl;simp only [Out.got.injEq,Prod.mk.injEq] at hl;rw [<-hl.1];exact hK (by rw [e1];exact hk)
structure RpOk (rp:Rp):Prop where
 reads:∀r,r<18446744073709551616->rp (Bl r)=some (D2 r)
 known:∀r,r<18446744073709551616->rp.K (Bl r)
theorem itoa_reads (n:Nat) (h:n<=9223372036854775807):wP (Lib.itoa (n:Int))=some (n:Int):=wP_iff.2 ⟨by omega,rfl⟩
theorem numS_itoa {n most:Nat} (h:n<=most) (hm:most<=100000):numS (Lib.itoa (n:Int)) most=some n:=by
 unfold numS;rw [itoa_reads n (by omega)];dsimp only;rw [if_pos (by omega)];rfl
theorem itoa_le {n:Int} (h0:-9223372036854775808<=n) (h1:n<=9223372036854775807):(Lib.itoa n).length<=4198:=by
 have:=itoa_len21 h0 h1;omega
theorem itoa_not_m1 (n:Nat):Lib.itoa (n:Int)≠[45,49]:=by
 intro h;have h1:=(wP_iff (l:=Lib.itoa (n:Int)) (v:=(n:Int)));have h2:Lib.itoa (-1)=[45,49]:=by decide +kernel
 rw [<-h2] at h;have:=itoa_inj h;omega
theorem Fc {r:Nat} (h:A5 r=0):r=0:=by
 unfold A5 at h;split at h
 · cases h
 · exact h
theorem text_list (t:ByteArray):(⟨t.data.toList.toArray⟩:ByteArray)=t:=ByteArray.ext (by simp)
theorem norm_mk (k:Int) (t:ByteArray) (i:Int) (r:Nat) (f:Bool) (l:List V):(V.mk k t i r f l).norm=.mk k t i (A5 r) f (l.map V.norm):=by rw [V.norm,V.normL_map]
theorem kind_mark:∀k:Fin 15,1<=k.val->Ac (Bm k.val)=k.val:=by decide
theorem kind_of_mark {k:Int} (h:1<=k/\k<=14):(Ac (Bm k):Int)=k:=by
 have:=kind_mark ⟨k.toNat,by omega⟩ (by show 1<=k.toNat;omega);have e:((k.toNat:Nat):Int)=k:=by omega
 simp only at this;rw [e] at this;rw [this];exact e
theorem kind_eq {k:Int} (h:1<=k/\k<=14) {j:Nat} (hj:k=j):Ac (Bm k)=j:=by
 have:=kind_of_mark h;omega
theorem head_line {rp:Rp} {m:UInt8} {t z:List UInt8} {v:V} (h13:(13:UInt8) ∉ t) (h10:(10:UInt8) ∉ t) (hz:t.length<=4198)
   (hk:Ac m=1\/Ac m=2\/Ac m=9\/Ac m=3\/Ac m=7\/Ac m=8\/Ac m=6) (ho:B6 (rp t) (Ac m) ⟨t.toArray⟩=some v) (ok:okV v=true) :
   A8 rp (m :: (t++13 :: 10 :: z))=.leaf v (t.length+3):=by
 unfold A8
 dsimp only
 rw [if_neg (by omega),Gm h13 h10 hz]
 dsimp only
 rw [if_neg (by omega),if_neg (by omega),if_neg (by omega),if_neg (by omega),ho]
 dsimp only
 rw [if_pos ok,show 1+(t.length+2)=t.length+3 by omega]
theorem head_long {rp:Rp} {m:UInt8} {t z:List UInt8} (hz:t.length<=4096) (hk:Ac m=4\/Ac m=10\/Ac m=11) (ok:okV (Ay (Ac m) ⟨t.toArray⟩ 0 0 false)=true) :
   A8 rp (E3 m t++z)=.leaf (Ay (Ac m) ⟨t.toArray⟩ 0 0 false) (E3 m t).length:=by
 have hi:=itoa_le (n:=(t.length:Int)) (by omega) (by omega)
 have e:E3 m t++z=m :: (Lib.itoa (t.length:Int)++13 :: 10 :: (t++13 :: 10 :: z)):=by unfold E3 numL Cr;simp
 have el:(E3 m t).length=1+((Lib.itoa (t.length:Int)).length+2)+(t.length+2):=by unfold E3 numL Cr;simp;omega
 rw [e,el]
 unfold A8
 dsimp only
 rw [if_neg (by omega),Gm (Fe _) (D0 _) hi]
 dsimp only
 rw [if_neg (fun h=>itoa_not_m1 _ h.1),if_pos hk,numS_itoa hz (by decide)]
 dsimp only
 rw [show (Lib.itoa (t.length:Int)++13 :: 10 :: (t++13 :: 10 :: z))=(Lib.itoa (t.length:Int)++[13,10])++(t++13 :: 10 :: z) by simp,
   show (Lib.itoa (t.length:Int)).length+2=(Lib.itoa (t.length:Int)++[13,10]).length by simp,List.drop_left,longS_got]
 dsimp only
 rw [if_pos ok]
theorem head_list {rp:Rp} {m:UInt8} {n:Nat} {z:List UInt8} (hn:n<=1000) (hk:Ac m=5\/Ac m=13\/Ac m=14\/Ac m=12) :
   A8 rp (numL m (n:Int)++z)=.list (Ac m) (if Ac m=12 then 2 * n else n) (numL m (n:Int)).length:=by
 have hi:=itoa_le (n:=(n:Int)) (by omega) (by omega)
 have e:numL m (n:Int)++z=m :: (Lib.itoa (n:Int)++13 :: 10 :: z):=by unfold numL Cr;simp
 have el:(numL m (n:Int)).length=1+((Lib.itoa (n:Int)).length+2):=by unfold numL Cr;simp;omega
 rw [e,el]
 unfold A8
 dsimp only
 rw [if_neg (by omega),Gm (Fe _) (D0 _) hi]
 dsimp only
 rw [if_neg (fun h=>itoa_not_m1 _ h.1),if_neg (by omega)]
 by_cases h12:Ac m=12
 · rw [if_neg (by omega),if_pos h12,numS_itoa hn (by decide),if_pos h12,h12]
 · rw [if_pos (by omega),numS_itoa hn (by decide),if_neg h12]
theorem ok7 (r r' : Nat) (h:okV (Ay 7 ⟨#[]⟩ 0 r false)=true):okV (Ay 7 ⟨#[]⟩ 0 r' false)=true:=h
theorem wire_leaf {rp:Rp} (hrp:RpOk rp) {v:V} (ho:okV v=true) (hr:v.ranged) (hl:v.kind=1\/v.kind=2\/v.kind=9\/v.kind=3\/v.kind=7\/v.kind=8\/v.kind=6) :
   ∃t,v.wire=Cr (Bm v.kind) t/\(13:UInt8) ∉ t/\(10:UInt8) ∉ t/\t.length<=4198/\(v.kind=7->rp.K t)/\B6 (rp t) v.kind.toNat ⟨t.toArray⟩=some v.norm/\okV v.norm=true:=by
 have oo:=ok_out ho
 obtain ⟨k,t,i,r,f,l⟩:=v
 have ok1:=oo.kind
 have ok2:=oo.text
 have ok3:=oo.int
 have ok4:=oo.real
 have ok5:=oo.flag
 have ok6:=oo.list
 have ok7' := oo.line
 have ok8:=oo.big
 have ok9:=oo.size
 rw [V.ranged_eq] at hr
 obtain ⟨r1,r2,r3,_⟩:=hr
 simp only [V.kind,V.text,V.int,V.real,V.flag,V.list] at ok1 ok2 ok3 ok4 ok5 ok6 ok7' ok8 ok9 r1 r2 r3 hl ⊢
 clear oo
 have hlist:l=[]:=ok6 (by omega)
 subst hlist
 rw [norm_mk,List.map_nil]
 by_cases c1:k=1\/k=2\/k=9
 · have hi:=ok3 (by omega)
   have hr0:=Fc (ok4 (by omega));have hf:=ok5 (by omega);subst hi hr0 hf;have hb:A5 0=0:=ok4 (by omega);rw [hb];have fr:(13:UInt8) ∉ t.data.toList/\(10:UInt8) ∉ t.data.toList:=by
     by_cases c:k=9
     · exact ⟨big_free (ok8 c),big_free10 (ok8 c)⟩
     · exact ⟨crlf_free (ok7' (by omega)),crlf_free10 (ok7' (by omega))⟩
   refine ⟨t.data.toList,by rw [V.wire,if_pos c1],fr.1,fr.2,by have:=size_l' t;omega,fun h=>by omega,?_,ho⟩;unfold B6;rw [if_pos (by omega),text_list,show ((k.toNat:Nat):Int)=k by omega];rfl
 have ht:=ok2 (by omega)
 subst ht
 by_cases c2:k=3
 · subst c2
   have hr0:=Fc (ok4 (by omega));have hf:=ok5 (by omega);subst hr0 hf;have hb:A5 0=0:=ok4 (by omega);rw [hb];refine ⟨Lib.itoa i,by rw [V.wire,if_neg c1,if_pos rfl];rfl,Fe _,D0 _,itoa_le r1 r2,fun h=>by omega,?_,ho⟩;unfold B6;rw [if_neg (by decide),if_pos (by decide)];have:wP (Lib.itoa i).toArray.toList=some i:=wP_iff.2 ⟨⟨r1,r2⟩,by simp⟩;rw [this];rfl
 have hi:=ok3 c2
 subst hi
 by_cases c3:k=7
 · subst c3
   have hf:=ok5 (by omega);subst hf;refine ⟨Bl r,by rw [V.wire,if_neg c1,if_neg c2,if_pos rfl];rfl,real_free r3,real_free10 r3,by have:=text_len r3;omega,fun _=>hrp.known r r3,?_,ok7 r _ ho⟩;unfold B6;rw [if_neg (by decide),if_neg (by decide),if_pos (by decide),hrp.reads r r3,bits_canon r3];rfl
 have hr0:=Fc (ok4 c3)
 subst hr0
 have hb:A5 0=0:=ok4 c3
 rw [hb]
 by_cases c4:k=8
 · subst c4
   refine ⟨if f then [116] else [102],by rw [V.wire,if_neg c1,if_neg c2,if_neg c3,if_pos rfl];rfl,by cases f<;>decide,by cases f<;>decide,by cases f<;>decide,fun h=>by omega,?_,ho⟩;unfold B6;rw [if_neg (by decide),if_neg (by decide),if_neg (by decide),if_pos (by decide)];cases f
   · rw [if_neg (by decide),if_pos (by rfl)];rfl
   · rw [if_pos (by rfl)];rfl
 have c5:k=6:=by omega
 subst c5
 have hf:=ok5 (by omega)
 subst hf
 refine ⟨[],by rw [V.wire,if_neg c1,if_neg c2,if_neg c3,if_neg c4,if_pos rfl];rfl,by decide,by decide,by decide,fun h=>by omega,?_,ho⟩
 unfold B6
 rw [if_neg (by decide),if_neg (by decide),if_neg (by decide),if_neg (by decide),if_pos (by rfl)]
 rfl
theorem wire_long {v:V} (ho:okV v=true) (hl:v.kind=4\/v.kind=10\/v.kind=11) :
   v.wire=E3 (Bm v.kind) v.text.data.toList/\v.norm=Ay v.kind v.text 0 0 false/\okV (Ay v.kind v.text 0 0 false)=true:=by
 have oo:=ok_out ho
 obtain ⟨k,t,i,r,f,l⟩:=v
 have ok3:=oo.int
 have ok4:=oo.real
 have ok5:=oo.flag
 have ok6:=oo.list
 simp only [V.kind,V.text,V.int,V.real,V.flag,V.list] at ok3 ok4 ok5 ok6 hl ⊢
 clear oo
 have hlist:l=[]:=ok6 (by omega)
 have hi:=ok3 (by omega)
 have hr0:=Fc (ok4 (by omega))
 have hf:=ok5 (by omega)
 subst hlist hi hr0 hf
 have hb:A5 0=0:=ok4 (by omega)
 refine ⟨by rw [V.wire,if_neg (by omega),if_neg (by omega),if_neg (by omega),if_neg (by omega),if_neg (by omega),if_pos hl],by rw [norm_mk,hb];rfl,ho⟩
theorem wire_list {v:V} (ho:okV v=true) (hl:v.kind=5\/v.kind=12\/v.kind=13\/v.kind=14) :
   v.wire=numL (Bm v.kind) (Cy v.kind v.list.length)++V.wireL v.list/\v.norm=.mk v.kind ⟨#[]⟩ 0 0 false (v.list.map V.norm)/\(v.kind=12->v.list.length % 2=0)/\(v.kind=14->v.list.length≠0):=by
 have oo:=ok_out ho
 obtain ⟨k,t,i,r,f,l⟩:=v
 have ok2:=oo.text
 have ok3:=oo.int
 have ok4:=oo.real
 have ok5:=oo.flag
 have ok8:=oo.even
 simp only [V.kind,V.text,V.int,V.real,V.flag,V.list] at ok2 ok3 ok4 ok5 ok8 hl ⊢
 clear oo
 have ht:=ok2 (by omega)
 have hi:=ok3 (by omega)
 have hr0:=Fc (ok4 (by omega))
 have hf:=ok5 (by omega)
 subst ht hi hr0 hf
 have hb:A5 0=0:=ok4 (by omega)
 refine ⟨by rw [V.wire,if_neg (by omega),if_neg (by omega),if_neg (by omega),if_neg (by omega),if_neg (by omega),if_neg (by omega),if_pos hl],by rw [norm_mk,hb],ok8,fun h14 h0=>?_⟩
 subst h14
 unfold okV Bu at ho
 simp [V.kind,V.list,h0] at ho
theorem scan_wire {rp:Rp} (hrp:RpOk rp) (v:V):∀(lv many:Nat) (z:List UInt8),v.fine (lv:Int)=true->v.ranged->(v.kind=14->8<=lv)->many+v.count<=1001 ->
   Aq rp lv many (v.wire++z)=.got (v.norm,v.wire.length,many+v.count - 1)/\Cz rp lv many (v.wire++z):=by
 induction v using V.ind with
 | h v ih=>
 intro lv many z hf hr h14 hc
 have hf0:=hf
 rw [V.fine_eq,Bool.and_eq_true,Bool.and_eq_true] at hf
 obtain ⟨⟨ho,hlv⟩,hfl⟩:=hf
 have oo:=ok_out ho
 have hk:=oo.kind
 have hkn:Ac (Bm v.kind)=v.kind.toNat:=kind_eq hk (by omega)
 have hce:=v.count_eq
 by_cases hleaf:v.kind=1\/v.kind=2\/v.kind=9\/v.kind=3\/v.kind=7\/v.kind=8\/v.kind=6
 · obtain ⟨t,e1,h13,h10,hz,hK,hs,ok⟩:=wire_leaf hrp ho hr hleaf
   have hll:v.list=[]:=oo.list (by omega);have hc1:v.count=1:=by rw [hce,hll];rfl
   rw [e1,lineL_app,Dp,hc1];refine Gd (head_line h13 h10 hz (by rw [hkn];omega) (by rw [hkn];exact hs) ok) (needH_line h13 h10 hz fun h7=>hK (by omega))
 by_cases hlong:v.kind=4\/v.kind=10\/v.kind=11
 · obtain ⟨e1,e2,ok⟩:=wire_long ho hlong
   have hll:v.list=[]:=oo.list (by omega);have hc1:v.count=1:=by rw [hce,hll];rfl
   have hkz:((v.kind.toNat:Nat):Int)=v.kind:=by omega
   have hsz:=oo.size;rw [e1,e2,hc1];have hh:=head_long (rp:=rp) (m:=Bm v.kind) (t:=v.text.data.toList) (z:=z) (by have:=size_l' v.text;omega) (by rw [hkn];omega) (by rw [hkn,hkz,text_list];exact ok);rw [hkn,hkz,text_list] at hh;refine Gd hh ?_;have e:E3 (Bm v.kind) v.text.data.toList++z=Bm v.kind :: (Lib.itoa (v.text.data.toList.length:Int)++13 :: 10 :: (v.text.data.toList++13 :: 10 :: z)):=by unfold E3 numL Cr;simp
   rw [e];have hsl:=size_l' v.text;exact needH_line (Fe _) (D0 _) (itoa_le (by omega) (by omega)) fun h7=>by omega
 have hlist:v.kind=5\/v.kind=12\/v.kind=13\/v.kind=14:=by omega
 obtain ⟨e1,e2,h12,h14'⟩:=wire_list ho hlist
 have hkz:((v.kind.toNat:Nat):Int)=v.kind:=by omega
 have hlen:=V.length_le v.list
 have hmk:Cy v.kind v.list.length<=1000:=by unfold Cy;split<;>omega
 obtain ⟨lv', rfl⟩:∃lv', lv=lv' + 1:=by
   cases lv with
   | zero=>
     have:Ak v.kind=true:=by unfold Ak;exact decide_eq_true hlist
     rw [this] at hlv;simp at hlv
   | succ k=>exact ⟨k,rfl⟩
 rw [V.ranged_eq] at hr
 have hrl:=hr.2.2.2
 have key:∀(l:List V),(∀x∈l,x∈v.list)->V.fineL l ((lv' : Nat):Int)=true->V.rangedL l->∀(m:Nat) (z:List UInt8),m+V.countL l<=1000+l.length ->
     Be (Aq rp lv') l.length m (V.wireL l++z)=.got (l.map V.norm,(V.wireL l).length,m+V.countL l - l.length)/\needN (Cz rp lv') (Aq rp lv') l.length m (V.wireL l++z):=by
   intro l
   induction l with
   | nil=>intro _ _ _ m z _;exact ⟨by simp [Be,V.wireL,V.countL],trivial⟩
   | cons x l ihl=>
     intro hm h1 h2 m z hc;simp only [V.fineL,Bool.and_eq_true,decide_eq_true_eq] at h1;simp only [V.countL,List.length_cons] at hc ⊢;have hxp:=x.count_pos;have hll:=V.length_le l;obtain ⟨a1,a2⟩:=ih x (hm x (List.mem_cons_self ..)) lv' m (V.wireL l++z) h1.1.2 h2.1 (fun h=>absurd h h1.1.1) (by omega);obtain ⟨b1,b2⟩:=ihl (fun y hy=>hm y (List.mem_cons_of_mem _ hy)) h1.2 h2.2 (m+x.count - 1) z (by omega);rw [V.wireL,List.append_assoc];refine ⟨?_,a2,fun v' u' m' e=>?_⟩
     · rw [Be,a1]
       dsimp only;rw [List.drop_left,b1];dsimp only;rw [List.map_cons,List.length_append,show m+x.count - 1+V.countL l - l.length=m+(x.count+V.countL l) - (l.length+1) by omega]
     · rw [a1] at e
       simp only [Out.got.injEq,Prod.mk.injEq] at e;rw [<-e.2.1,<-e.2.2,List.drop_left];exact b2
 have hfl' : V.fineL v.list ((lv' : Nat):Int)=true:=by
   rw [show ((lv' + 1:Nat):Int) - 1=(lv' : Int) by omega] at hfl;exact hfl
 obtain ⟨k1,k2⟩:=key v.list (fun _ h=>h) hfl' hrl (many+v.list.length) z (by omega)
 have hh:=head_list (rp:=rp) (m:=Bm v.kind) (n:=Cy v.kind v.list.length) (z:=V.wireL v.list++z) hmk (by rw [hkn];omega)
 have hN:(if Ac (Bm v.kind)=12 then 2 * Cy v.kind v.list.length else Cy v.kind v.list.length)=v.list.length:=by
   rw [hkn];by_cases c:v.kind=12
   · have:=h12 c
     rw [if_pos (by omega),Cy,if_pos c];omega
   · rw [if_neg (by omega),Cy,if_neg c]
 rw [hN,hkn] at hh
 rw [e1,e2,List.append_assoc]
 have hne:needH rp (numL (Bm v.kind) (Cy v.kind v.list.length:Nat)++(V.wireL v.list++z)):=by
   unfold numL;rw [lineL_app];exact needH_line (Fe _) (D0 _) (itoa_le (by omega) (by omega)) fun h7=>by omega
 refine ⟨?_,hne,fun kd n u e=>?_⟩
 · rw [Aq,hh]
   dsimp only;rw [if_neg (by
     rintro (h | ⟨h,h'⟩)
     · omega
     · have e14:v.kind=14:=by omega
       rcases h' with h' | h'
       · exact h14' e14 h'
       · have:=h14 e14;omega)]
   rw [List.drop_left,k1];dsimp only;rw [hkz,List.length_append];congr 3;omega
 · rw [hh] at e
   simp only [Head.list.injEq] at e;rw [<-e.2.1,<-e.2.2,List.drop_left];exact k2
end Go.Proofs.YtagkgfniihiinaaGreatDoor
namespace Go.Proofs.YtagkgfniihiinaaGreatDoor
open Go.RowKit
theorem lineS_len {L t:List UInt8} {u:Nat} (h:A7 L=.got (t,u)):u<=L.length/\0<u/\t.length<=4200:=by
 unfold A7 at h;obtain ⟨R,hR⟩:∃R,R=L.take 4200:=⟨_,rfl⟩;have hRl:R.length<=L.length:=by rw [hR,List.length_take];omega
 have hR4:R.length<=4200:=by rw [hR,List.length_take];omega
 rw [<-hR] at h;dsimp only at h;split at h
 · cases h
 · split at h
   · cases h
   · rename_i hn hz
     simp only [Out.got.injEq,Prod.mk.injEq] at h;obtain ⟨rfl,rfl⟩:=h;refine ⟨?_,?_,?_⟩
     · rcases Bi R 10 with h1 | h1
       · omega
       · subst h1
         exact absurd (show Lib.indexByte ([]:List UInt8) 10<0 by decide) hz
     · omega
     · rw [List.length_take];omega
theorem longS_len {L s:List UInt8} {k:Nat} (h:Cg L k=.got s):k+2<=L.length/\s.length=k:=by
 unfold Cg at h;split at h
 · cases h
 · split at h
   · cases h
   · simp only [Out.got.injEq] at h
     subst h;rw [List.length_take];omega
theorem shortO_leaf {ro:Option Nat} {k:Nat} {t:ByteArray} {v:V} (hro:∀r,ro=some r->r<18446744073709551616) (h:B6 ro k t=some v) (hk:k<=14) (hl:Ak (k:Int)=false):v.ranged/\v.list=[]/\v.kind≠14/\Ak v.kind=false:=by
 have leaf:∀(k:Int) (t:ByteArray) (i:Int) (r:Nat) (f:Bool),-9223372036854775808<=i->i<=9223372036854775807->r<18446744073709551616->k≠14->Ak k=false->(Ay k t i r f).ranged/\(Ay k t i r f).list=[]/\(Ay k t i r f).kind≠14/\Ak (Ay k t i r f).kind=false:=fun k t i r f a b c d e=>⟨⟨a,b,c,trivial⟩,rfl,d,e⟩;unfold B6 at h;split at h
 · rename_i h1
   simp only [Option.some.injEq] at h;subst h;exact leaf _ _ _ _ _ (by decide) (by decide) (by decide) (by omega) hl
 · split at h
   · rw [Option.map_eq_some_iff] at h
     obtain ⟨n,hn,rfl⟩:=h;have:=(wP_iff.1 hn).1;exact leaf _ _ _ _ _ this.1 this.2 (by decide) (by decide) (by decide)
   · split at h
     · rw [Option.map_eq_some_iff] at h
       obtain ⟨r,hr,rfl⟩:=h;exact leaf _ _ _ _ _ (by decide) (by decide) (hro r hr) (by decide) (by decide)
     · split at h
       · split at h
         · simp only [Option.some.injEq] at h
           subst h;exact leaf _ _ _ _ _ (by decide) (by decide) (by decide) (by decide) (by decide)
         · split at h
           · simp only [Option.some.injEq] at h
             subst h;exact leaf _ _ _ _ _ (by decide) (by decide) (by decide) (by decide) (by decide)
           · cases h
       · split at h
         · simp only [Option.some.injEq] at h
           subst h;exact leaf _ _ _ _ _ (by decide) (by decide) (by decide) (by decide) (by decide)
         · cases h
theorem ite_le {p:Prop} [Decidable p] {a b n:Nat} (h:a<=n) (h' : b<=n):(if p then a else b)<=n:=by split<;>assumption
theorem kindR_leG (c:UInt8):Ac c<=14:=by
 unfold Ac;iterate 14 (refine ite_le ?_ ?_;· decide)
 decide
structure LeafG (L:List UInt8) (v:V) (u:Nat):Prop where
 ok:okV v=true
 ranged:v.ranged
 list:v.list=[]
 kind:v.kind≠14
 leaf:Ak v.kind=false
 pos:0<u
 len:u<=L.length
theorem head_leafG {rp:Rp} (hrp:∀t r,rp t=some r->r<18446744073709551616) {L:List UInt8} {v:V} {u:Nat} (h:A8 rp L=.leaf v u):LeafG L v u:=by
 cases L with
 | nil=>unfold A8 at h;cases h
 | cons c L=>
   unfold A8 at h;dsimp only at h;by_cases hk0:Ac c=0
   · rw [if_pos hk0] at h;cases h
   rw [if_neg hk0] at h;cases hl:A7 L with
   | stop e=>rw [hl] at h;cases h
   | got p=>
     obtain ⟨t,u'⟩:=p;rw [hl] at h;dsimp only at h;obtain ⟨l1,l2,l3⟩:=lineS_len hl;by_cases hm:t=[45,49]/\(Ac c=4\/Ac c=5)
     · rw [if_pos hm] at h
       simp only [Head.leaf.injEq] at h;obtain ⟨rfl,rfl⟩:=h;exact ⟨okV_null,⟨by decide,by decide,by decide,trivial⟩,rfl,by decide,by decide,by omega,by rw [List.length_cons];omega⟩
     rw [if_neg hm] at h;by_cases hk:Ac c=4\/Ac c=10\/Ac c=11
     · rw [if_pos hk] at h
       cases hn:numS t 4096 with
       | none=>rw [hn] at h;cases h
       | some n=>
         rw [hn] at h;dsimp only at h;cases hs:Cg (L.drop u') n with
         | stop e=>rw [hs] at h;cases h
         | got s=>
           rw [hs] at h;dsimp only at h;obtain ⟨s1,s2⟩:=longS_len hs;rw [List.length_drop] at s1;by_cases ok:okV (Ay (Ac c) ⟨s.toArray⟩ 0 0 false)=true
           · rw [if_pos ok] at h
             simp only [Head.leaf.injEq] at h;obtain ⟨rfl,rfl⟩:=h;exact ⟨ok,⟨by decide,by decide,by decide,trivial⟩,rfl,by show ((Ac c:Nat):Int)≠14;omega,by show Ak ((Ac c:Nat):Int)=false;unfold Ak;rw [decide_eq_false_iff_not];omega,by omega,by rw [List.length_cons];omega⟩
           · rw [if_neg ok] at h;cases h
     rw [if_neg hk] at h;by_cases hk2:Ac c=5\/Ac c=13\/Ac c=14
     · rw [if_pos hk2] at h
       cases hn:numS t 1000 with
       | none=>rw [hn] at h;cases h
       | some n=>rw [hn] at h;cases h
     rw [if_neg hk2] at h;by_cases hk3:Ac c=12
     · rw [if_pos hk3] at h
       cases hn:numS t 1000 with
       | none=>rw [hn] at h;cases h
       | some n=>rw [hn] at h;cases h
     rw [if_neg hk3] at h;cases hv:B6 (rp t) (Ac c) ⟨t.toArray⟩ with
     | none=>rw [hv] at h;cases h
     | some v' =>
       rw [hv] at h;dsimp only at h;by_cases ok:okV v' = true
       · rw [if_pos ok] at h
         simp only [Head.leaf.injEq] at h;obtain ⟨rfl,rfl⟩:=h;obtain ⟨r1,r2,r3,r4⟩:=shortO_leaf (fun r hr=>hrp _ r hr) hv (kindR_leG c) (by unfold Ak;rw [decide_eq_false_iff_not];omega);exact ⟨ok,r1,r2,r3,r4,by omega,by rw [List.length_cons];omega⟩
       · rw [if_neg ok] at h;cases h
theorem head_listG {rp:Rp} {L:List UInt8} {kd n u:Nat} (h:A8 rp L=.list kd n u):(kd=5\/kd=12\/kd=13\/kd=14)/\(kd=12->n % 2=0)/\0<u/\u<=L.length:=by
 cases L with
 | nil=>unfold A8 at h;cases h
 | cons c L=>
   unfold A8 at h;dsimp only at h;by_cases hk0:Ac c=0
   · rw [if_pos hk0] at h;cases h
   rw [if_neg hk0] at h;cases hl:A7 L with
   | stop e=>rw [hl] at h;cases h
   | got p=>
     obtain ⟨t,u'⟩:=p;rw [hl] at h;dsimp only at h;obtain ⟨l1,l2,l3⟩:=lineS_len hl;rw [List.length_cons];by_cases hm:t=[45,49]/\(Ac c=4\/Ac c=5)
     · rw [if_pos hm] at h;cases h
     rw [if_neg hm] at h;by_cases hk:Ac c=4\/Ac c=10\/Ac c=11
     · rw [if_pos hk] at h
       cases hn:numS t 4096 with
       | none=>rw [hn] at h;cases h
       | some n=>
         rw [hn] at h;dsimp only at h;cases hs:Cg (L.drop u') n with
         | stop e=>rw [hs] at h;cases h
         | got s=>
           rw [hs] at h;dsimp only at h;by_cases ok:okV (Ay (Ac c) ⟨s.toArray⟩ 0 0 false)=true
           · rw [if_pos ok] at h;cases h
           · rw [if_neg ok] at h;cases h
     rw [if_neg hk] at h;by_cases hk2:Ac c=5\/Ac c=13\/Ac c=14
     · rw [if_pos hk2] at h
       cases hn:numS t 1000 with
       | none=>rw [hn] at h;cases h
       | some n=>
         rw [hn] at h;simp only [Head.list.injEq] at h;obtain ⟨rfl,rfl,rfl⟩:=h;exact ⟨by omega,fun h=>by omega,by omega,by omega⟩
     rw [if_neg hk2] at h;by_cases hk3:Ac c=12
     · rw [if_pos hk3] at h
       cases hn:numS t 1000 with
       | none=>rw [hn] at h;cases h
       | some n=>
         rw [hn] at h;simp only [Head.list.injEq] at h;obtain ⟨rfl,rfl,rfl⟩:=h;exact ⟨by omega,fun h=>by omega,by omega,by omega⟩
     rw [if_neg hk3] at h;cases hv:B6 (rp t) (Ac c) ⟨t.toArray⟩ with
     | none=>rw [hv] at h;cases h
     | some v' =>
       rw [hv] at h;dsimp only at h;by_cases ok:okV v' = true
       · rw [if_pos ok] at h;cases h
       · rw [if_neg ok] at h;cases h
structure ReadG (lv many:Nat) (L:List UInt8) (v:V) (u m:Nat):Prop where
 fine:v.fine (lv:Int)=true
 ranged:v.ranged
 push:v.kind=14->8<=lv
 all:m+1=many+v.count
 pos:0<u
 len:u<=L.length
 most:many<=1000->m<=1000
theorem leaf_read {lv many u:Nat} {L:List UInt8} {v:V} (h:LeafG L v u):ReadG lv many L v u many:=by
 refine ⟨?_,h.ranged,fun e=>absurd e h.kind,?_,h.pos,h.len,fun h=>h⟩
 · rw [V.fine_eq,h.ok,h.leaf,h.list];rfl
 · rw [V.count_eq,h.list];rfl
theorem scanN_good {lv:Nat} (hlv:lv<8) {f:Nat->List UInt8->Out (V × Nat × Nat)} (hf:∀many L v u m,f many L=.got (v,u,m)->ReadG lv many L v u m) :
   ∀(n many:Nat) (L:List UInt8) (l:List V) (u m:Nat),Be f n many L=.got (l,u,m)->l.length=n/\(∀x∈l,x.kind≠14/\x.fine (lv:Int)=true/\x.ranged)/\m+n=many+V.countL l/\u<=L.length/\(many<=1000->m<=1000)
 | 0,many,L,l,u,m,h=>by
   unfold Be at h;simp only [Out.got.injEq,Prod.mk.injEq] at h;obtain ⟨rfl,rfl,rfl⟩:=h;exact ⟨rfl,(by simp),rfl,Nat.zero_le _,fun h=>h⟩
 | n+1,many,L,l,u,m,h=>by
   unfold Be at h;split at h
   · cases h
   · rename_i v u1 m1 h1
     split at h
     · cases h
     · rename_i l2 u2 m2 h2
       simp only [Out.got.injEq,Prod.mk.injEq] at h;obtain ⟨rfl,rfl,rfl⟩:=h;have g:=hf _ _ _ _ _ h1;obtain ⟨k1,k2,k3,k4,k5⟩:=scanN_good hlv hf n m1 _ _ _ _ h2;rw [List.length_drop] at k4;have g1:=g.all;have g2:=g.len;have hc:=v.count_pos;refine ⟨by rw [List.length_cons,k1],fun x hx=>?_,?_,by omega,fun h=>k5 (g.most h)⟩
       · rcases List.mem_cons.1 hx with rfl | hx
         · exact ⟨fun e=>by have:=g.push e;omega,g.fine,g.ranged⟩
         · exact k2 x hx
       · rw [V.countL];omega
theorem fineL_of {l:List V} {d:Int} (h:∀x∈l,x.kind≠14/\x.fine d=true):V.fineL l d=true:=by
 induction l with
 | nil=>rfl
 | cons y l ih=>
   rw [V.fineL,Bool.and_eq_true,Bool.and_eq_true,decide_eq_true_eq];exact ⟨⟨(h y (by simp)).1,(h y (by simp)).2⟩,ih fun x hx=>h x (by simp [hx])⟩
theorem list_ok {kd:Nat} {l:List V} (hk:kd=5\/kd=12\/kd=13\/kd=14) (h12:kd=12->l.length % 2=0) (h14:kd=14->0<l.length):okV (.mk (kd:Int) ⟨#[]⟩ 0 0 false l)=true:=by
 have hn:∀k:Int,Ak k=true->Bg (Bk k) (numK k) (Bq k) (Bt k) (Ak k) (.mk k ⟨#[]⟩ 0 0 false l)=true:=fun k hk=>by
   have hb:A5 0=0:=by decide +kernel
   have he:D8 ⟨#[]⟩=true:=by decide +kernel
   unfold Bg;simp only [V.text,V.int,V.real,V.flag,hk,hb,he];simp
 unfold okV Bw;show (Ce (kd:Int) && Bg (Bk (kd:Int)) (numK (kd:Int)) (Bq (kd:Int)) (Bt (kd:Int)) (Ak (kd:Int)) (.mk (kd:Int) ⟨#[]⟩ 0 0 false l) && Bu (kd:Int) ⟨#[]⟩ l.length && decide ((⟨#[]⟩:ByteArray).size<=4096))=true;rcases hk with rfl | rfl | rfl | rfl
 · rw [hn _ (by decide)];rfl
 · rw [hn _ (by decide),show Bu ((12:Nat):Int) ⟨#[]⟩ l.length=true from decide_eq_true (h12 rfl)];rfl
 · rw [hn _ (by decide)];rfl
 · rw [hn _ (by decide),show Bu ((14:Nat):Int) ⟨#[]⟩ l.length=true from decide_eq_true (h14 rfl)];rfl
theorem scan_good {rp:Rp} (hrp:∀t r,rp t=some r->r<18446744073709551616):∀(lv:Nat),lv<=8->∀(many:Nat) (L:List UInt8) (v:V) (u m:Nat),Aq rp lv many L=.got (v,u,m)->ReadG lv many L v u m
 | 0,_,many,L,v,u,m,h=>by
   unfold Aq at h;split at h
   · cases h
   · rename_i v' u' hh
     simp only [Out.got.injEq,Prod.mk.injEq] at h;obtain ⟨rfl,rfl,rfl⟩:=h;exact leaf_read (head_leafG hrp hh)
   · cases h
 | lv+1,hlv,many,L,v,u,m,h=>by
   unfold Aq at h;split at h
   · cases h
   · rename_i v' u' hh
     simp only [Out.got.injEq,Prod.mk.injEq] at h;obtain ⟨rfl,rfl,rfl⟩:=h;exact leaf_read (head_leafG hrp hh)
   · rename_i kd n u1 hh
     obtain ⟨h1,h2,h3,h4⟩:=head_listG hh;split at h
     · cases h
     · rename_i hc
       split at h
       · cases h
       · rename_i l u2 m2 hs
         simp only [Out.got.injEq,Prod.mk.injEq] at h;obtain ⟨rfl,rfl,rfl⟩:=h;obtain ⟨k1,k2,k3,k4,k5⟩:=scanN_good (by omega) (fun many L v u m=>scan_good hrp lv (by omega) many L v u m) n (many+n) _ _ _ _ hs;rw [List.length_drop] at k4;refine ⟨?_,?_,?_,?_,by omega,by omega,fun _=>k5 (by omega)⟩
         · rw [V.fine_eq]
           show (okV (.mk (kd:Int) ⟨#[]⟩ 0 0 false l) && (!Ak (kd:Int) || decide (1<=((lv+1:Nat):Int))) && V.fineL l (((lv+1:Nat):Int) - 1))=true;rw [list_ok h1 (fun e=>by rw [k1];exact h2 e) (fun e=>by rw [k1];omega),show ((lv+1:Nat):Int) - 1=(lv:Int) by omega,fineL_of fun x hx=>⟨(k2 x hx).1,(k2 x hx).2.1⟩,decide_eq_true (show 1<=((lv+1:Nat):Int) by omega),Bool.or_true];rfl
         · rw [V.ranged_eq]
           exact ⟨by show (-9223372036854775808:Int)<=0;decide,by show (0:Int)<=9223372036854775807;decide,by show (0:Nat)<18446744073709551616;decide,rangedL_of fun x hx=>(k2 x hx).2.2⟩
         · intro e
           have:kd=14:=by have:(kd:Int)=14:=e;omega
           omega
         · rw [V.count]
           omega
end Go.Proofs.YtagkgfniihiinaaGreatDoor
namespace Go.Proofs.YtagkgfniihiinaaGreatDoor
open Go.ChangeShapes Go.WideShapes Go.ChangeAt Go.RowKit Go.Deep
section
variable {H:Type} {enc:TypeId × Value->H} {P:Program} {w:World}
theorem trodAll_below {W W' : World} (hl:laidOutB P=true) (hb:Below W.heap.size W W'):∀{ts:List TypeId} {vs:List Value} {ds:List (DataW H)} {ps:List MemPlace},
   (ts.all fun t=>P.readableRec t && decide (t<P.types.size))=true->DataW.TrodAll enc P W 0 (fun _=>true) true ts vs ds ps->DataW.TrodAll enc P W' 0 (fun b=>decide (b<W.heap.size)) true ts vs ds ps
 | [],vs,ds,ps,_,h=>by
   obtain ⟨rfl,rfl,rfl⟩:=trodAll_nil h;exact trodAll_mk0
 | t :: ts,vs,ds,ps,hts,h=>by
   obtain ⟨v,vs', d,ds', p,q,rfl,rfl,rfl,h1,h2⟩:=trodAll_cons h;simp only [List.all_cons,Bool.and_eq_true,decide_eq_true_eq] at hts;refine trodAll_cons_mk (Below.trod hl hts.1.1 hts.1.2 h1 hb ?_) (trodAll_below hl hb (by simpa using hts.2) h2);obtain ⟨m,hm⟩:=h1;exact DataW.trod_lt m _ _ _ hm
theorem exists_list {α:Type} {R:Nat->α->Prop}:∀(n:Nat),(∀i,i<n->∃x,R i x)->∃l:List α,l.length=n/\∀i (h:i<l.length),R i l[i]
 | 0,_=>⟨[],rfl,fun i h=>by simp at h⟩
 | n+1,h=>by
   obtain ⟨l,hl,hr⟩:=exists_list n (fun i hi=>h i (by omega));obtain ⟨x,hx⟩:=h n (by omega);refine ⟨l++[x],by simp [hl],fun i hi=>?_⟩;by_cases hn:i<l.length
   · rw [List.getElem_append_left hn];exact hr i hn
   · simp at hi
     have:i=l.length:=by omega
     subst this;rw [List.getElem_append_right (by omega)];simpa [hl] using hx
theorem add_plain {ad:Addr} {v:Value} (h:w.cell? (ad.add 0)=some v):∃b o,ad=⟨b,o,none⟩:=by
 cases ad with
 | mk b o s=>
   cases s with
   | none=>exact ⟨b,o,rfl⟩
   | some s=>
     simp [Addr.add,World.cell?] at h;split at h<;>simp at h
theorem add_mk (b o j:Nat):(⟨b,o,none⟩:Addr).add j=⟨b,o+j,none⟩:=by
 unfold Addr.add;split
 · rename_i h;simp [h]
 · rfl
end
theorem sizedL_of {l:List V} (h:∀x∈l,x.sized):V.sizedL l:=by
 induction l with
 | nil=>trivial
 | cons y l ih=>exact ⟨h y (by simp),ih fun x hx=>h x (by simp [hx])⟩
end Go.Proofs.YtagkgfniihiinaaGreatDoor
namespace Go.Proofs.YtagkgfniihiinaaGreatDoor
open Go.RowKit
theorem index_or:∀{t:List UInt8} {c:UInt8} (z:List UInt8),c ∉ t->Lib.indexByte (t++z) c=-1\/(t.length:Int)<=Lib.indexByte (t++z) c
 | [],c,z,_=>by
   have:=Lib.indexByte_ge z c;simp only [List.nil_append,List.length_nil];omega
 | b :: t,c,z,h=>by
   have ih:=index_or (t:=t) z (fun hc=>h (List.mem_cons_of_mem _ hc));have hbc:¬b=c:=fun e=>h (by rw [e];exact List.mem_cons_self);rw [List.cons_append,Lib.indexByte];have hbf:(b == c)=false:=by simpa using hbc
   rw [hbf];simp only [Bool.false_eq_true,if_false];split
   · exact .inl rfl
   · rename_i h1
     have h1' : ¬Lib.indexByte (t++z) c=-1:=by simpa using h1
     right;rw [List.length_cons];omega
theorem bits_bits (r:Nat):A5 (A5 r)=A5 r:=by
 by_cases h:nanB r=true
 · have e:A5 r=9221120237041090561:=by unfold A5;rw [if_pos h]
   rw [e];decide +kernel
 · have e:A5 r=r:=by unfold A5;rw [if_neg h]
   rw [e,e]
theorem norm_norm (v:V):v.norm.norm=v.norm:=by
 induction v using V.ind with
 | h v ih=>
   obtain ⟨k,t,i,r,f,l⟩:=v;rw [norm_mk,norm_mk,bits_bits,List.map_map];congr 1;exact List.map_congr_left fun x hx=>ih x hx
end Go.Proofs.YtagkgfniihiinaaGreatDoor
namespace Go.Proofs.YtagkgfniihiinaaGreatDoor
open Go.ChangeShapes Go.WideShapes Go.ChangeAt Go.RowKit
theorem star_err : "*" ++ "errors.errorString" = "*errors.errorString" := by decide
theorem row_err (u : TypeId) (h : Tryz.prog.typeName? 3 u = some "*errors.errorString") : u = 246 :=
 typeName_ptr_named (nm := "errors.errorString") (by rw [star_err]; kernel_rfl) (by kernel_rfl) (by decide) u (by rw [star_err]; exact h)
theorem nums_of {W:World} {laid:List (String × DataW Unit)} (h0:laidMetH Tryz.prog laid W) (hp:(laid.all fun x=>x.2.handleName?.isNone)=true)
   (e1 : laid.filter (fun x => x.1 == "internal/strconv.uint64pow10") = [("internal/strconv.uint64pow10", Lib.tabData .u64 Lib.pow10Tab)])
   (e2 : laid.filter (fun x => x.1 == "strconv.ErrSyntax") = [("strconv.ErrSyntax", .iface "*errors.errorString" (.ptr (.agg [.lit (.string [105, 110, 118, 97, 108, 105, 100, 32, 115, 121, 110, 116, 97, 120])])))])
   (e3 : laid.filter (fun x => x.1 == "strconv.ErrRange") = [("strconv.ErrRange", .iface "*errors.errorString" (.ptr (.agg [.lit (.string [118, 97, 108, 117, 101, 32, 111, 117, 116, 32, 111, 102, 32, 114, 97, 110, 103, 101])])))]) : Nums W := by
 rw [MakeChecks.laidMetH_plain _ _ _ hp] at h0
 have h1 := h0.filter (fun x => x.1 == "internal/strconv.uint64pow10")
 have h2 := h0.filter (fun x => x.1 == "strconv.ErrSyntax")
 have h3 := h0.filter (fun x => x.1 == "strconv.ErrRange")
 rw [e1] at h1
 rw [e2] at h2
 rw [e3] at h3
 refine ⟨Lib.tabIs_of_head (g:=5) (t:=223) (e:=60) (n:=20) (by kernel_rfl) (by kernel_rfl) Tryz.underlying223 Tryz.underlying60 (by kernel_rfl) (by kernel_rfl) h1,?_,?_⟩
 · obtain ⟨a,s,hv,_⟩:=laid_sentinel (g:=3) (ti:=106) (tp:=246) (te:=248) h2 glob_syn (by kernel_rfl) Tryz.underlying106 row_err Tryz.underlying246 Tryz.underlying248 rfl rfl Tryz.underlying9 (by kernel_rfl) (by kernel_rfl)
   exact ⟨_,_,hv⟩
 · obtain ⟨a,s,hv,_⟩:=laid_sentinel (g:=4) (ti:=106) (tp:=246) (te:=248) h3 glob_rng (by kernel_rfl) Tryz.underlying106 row_err Tryz.underlying246 Tryz.underlying248 rfl rfl Tryz.underlying9 (by kernel_rfl) (by kernel_rfl)
   exact ⟨_,_,hv⟩
end Go.Proofs.YtagkgfniihiinaaGreatDoor
namespace Go.Proofs.YtagkgfniihiinaaGreatDoor
open Go.RowKit
theorem needN_all {need:Nat->List UInt8->Prop} {f:Nat->List UInt8->Out (V × Nat × Nat)} (h:∀m L,need m L):∀(n m:Nat) (L:List UInt8),needN need f n m L
 | 0,_,_=>trivial
 | n+1,m,L=>⟨h m L,fun _ u m' _=>needN_all h n m' (L.drop u)⟩
theorem needV_all {rp:Rp} (h:∀t,rp.K t):∀(lv m:Nat) (L:List UInt8),Cz rp lv m L
 | 0,_,_=>fun _ _ t _ _ _ _=>h t
 | lv+1,m,L=>⟨fun _ _ t _ _ _ _=>h t,fun _ n u _=>needN_all (needV_all h lv) n (m+n) (L.drop u)⟩
structure RpAll (rp:Rp):Prop where
 is:∀t:List UInt8,ParO ⟨t.toArray⟩ (rp t)
 all:∀t,rp.K t
theorem RpAll.lt {rp:Rp} (h:RpAll rp):∀t r,rp t=some r->r<18446744073709551616:=fun t r e=>parO_lt (h.is t) r e
theorem RpAll.real {rp:Rp} (h:RpAll rp) {t:List UInt8} {w:World} (hY:Lay w):Calls Tryz.prog 90 #[.string ⟨t.toArray⟩] w (RealQ (rp t) w):=by
 refine (real_all (h.is t) hY).mono ?_;rintro e w' ⟨rfl,hb⟩;unfold RealQ ParA;cases rp t with
 | none=>exact ⟨⟨_,rfl⟩,hb⟩
 | some r=>exact ⟨rfl,hb⟩
theorem RpAll.env {rp:Rp} (h:RpAll rp) {w:World} {s:ByteArray} (hN:Nums w) (hY:Lay w):Env rp w s:=⟨hN,fun _ hb _ _=>h.real (hY.below hb)⟩
theorem RpAll.need {rp:Rp} (h:RpAll rp) (lv m:Nat) (L:List UInt8):Cz rp lv m L:=needV_all h.all lv m L
theorem fine_sized (v:V):∀d:Int,v.fine d=true->v.sized:=by
 induction v using V.ind with
 | h v ih=>
   intro d h;rw [V.fine_eq,Bool.and_eq_true,Bool.and_eq_true] at h;obtain ⟨⟨h1,_⟩,h3⟩:=h;unfold okV at h1;rw [Bool.and_eq_true,decide_eq_true_eq] at h1;refine (V.sized_eq _).2 ⟨by omega,sizedL_of fun x hx=>ih x hx (d - 1) ?_⟩;generalize v.list=l at h3 hx;clear ih h1;induction l with
   | nil=>cases hx
   | cons y l ihl=>
     rw [V.fineL,Bool.and_eq_true,Bool.and_eq_true] at h3;rcases List.mem_cons.1 hx with rfl | hx
     · exact h3.1.2
     · exact ihl h3.2 hx
end Go.Proofs.YtagkgfniihiinaaGreatDoor
namespace Go.Proofs.YtagkgfniihiinaaGreatDoor
open Go.ChangeShapes Go.WideShapes Go.ChangeAt Go.RowKit
theorem cheat_rows:∀k:Fin 61,1<=k.val->Go.Pinned.cheatRows[k.val]?=some (C6 k.val,Lib.decDigits (5 ^ k.val)):=by decide +kernel
theorem cheat_len:Go.Pinned.cheatRows.length=61:=by decide +kernel
theorem cheats_of {W : World} (h : laidMet Tryz.prog [("internal/strconv.leftcheats", Go.Pinned.leftcheats)] W) :
   ∃(b:Addr) (c:Nat),W.cell? ⟨9,0,none⟩=some (.slice (some b) 61 c)/\∀k,1<=k->k<=60->W.cell? (b.add (k * 2))=some (.int .i64 (C6 k:Int))/\W.cell? ⟨(b.add (k * 2)).block,(b.add (k * 2)).off+1,none⟩=some (.string (cutS k)):=by
 obtain ⟨ps,⟨g', t', cs,fuel,p,q,hg', ht', hvar,hd,_,_⟩,_⟩:=h
 obtain rfl : 9 = g' := Option.some.inj ((show Tryz.prog.globalNamed "internal/strconv.leftcheats" = some 9 by kernel_rfl).symm.trans hg')
 obtain rfl:296=t' := Option.some.inj ((show (Tryz.prog.globals[9]?).map (·.type)=some 296 by kernel_rfl).symm.trans ht')
 have hc2:Tryz.prog.cellsOf 295=2:=by kernel_rfl
 have hc1:Tryz.prog.cellsOf 3=1:=by kernel_rfl
 have hcs:Tryz.prog.cellsOf 9=1:=by kernel_rfl
 rcases DataW.trod_slice Tryz.underlying296 hd with ⟨_,h2⟩ | ⟨a,len,cap,elems,rest,n,rfl,h1,h2,hb,hlc,hcm,hel,hat,_,_⟩
 · have:=congrArg Prod.fst h2
   cases this
 · have hem:elems.map (·.1)=Go.Pinned.cheatRows.map fun x=>(DataW.agg [.lit (.int .i64 x.1),.lit (.string x.2)]:DataW Unit):=by
     have:=congrArg Prod.fst h2;unfold Go.Pinned.leftcheats at this;simp only [DataW.slice.injEq] at this;exact this.1.symm
   have hl61:len=61:=by
     have:=congrArg List.length hem;rw [List.length_map,List.length_map,hel,cheat_len] at this;exact this
   rw [hc2] at hat;refine ⟨a,cap,?_,fun k k1 k2=>?_⟩
   · rw [World.var?_cell hg' hvar 0,<-Array.getElem?_toList,h1,hl61];rfl
   · have h3:=hat k (by omega)
     have h4:(elems.map (·.1))[k]?=some (DataW.agg [.lit (.int .i64 (C6 k)),.lit (.string (Lib.decDigits (5 ^ k)))]):=by
       rw [hem,List.getElem?_map,cheat_rows ⟨k,by omega⟩ k1];rfl
     rw [List.getElem?_map,Option.map_eq_some_iff] at h4;obtain ⟨y,hy,hy1⟩:=h4;rw [hy,Option.bind_eq_some_iff] at h3;obtain ⟨l,hl,ht⟩:=h3;obtain ⟨y0,y1,m,rfl,hll,hf0,hf1⟩:=trod_struct2 Tryz.underlying295 ht;simp only [DataW.agg.injEq,List.cons.injEq,and_true] at hy1;obtain ⟨v0,e0,e1,_⟩:=DataW.trod_int Tryz.underlying3 hf0;obtain ⟨v1,e2,e3,_⟩:=DataW.trod_string Tryz.underlying9 hf1;have q0:v0=C6 k:=by
       have:=hy1.1;rw [e1] at this;simpa using this
     have q1:v1=cutS k:=by
       have:=hy1.2;rw [e3] at this;have h9:v1.data.toList=Lib.decDigits (5 ^ k):=by simpa using this
       unfold cutS;exact ByteArray.ext (by rw [<-h9])
     rw [hc1] at e0;rw [hcs] at e2;obtain ⟨_,hlen,hcell⟩:=World.cells?_some hl;have c0:l[0]?=some (.int .i64 v0):=by
       have:=congrArg (·[0]?) e0
       simpa using this
     have c1:l[1]?=some (.string v1):=by
       have:=congrArg (·[0]?) e2
       simpa using this
     have d0:=hcell 0 (by omega);have d1:=hcell 1 (by omega);rw [c0,q0] at d0;rw [c1,q1] at d1;exact ⟨d0,d1⟩
theorem pt_rows:∀i:Fin 9,ptL[i.val]?=some (pt i.val):=by decide +kernel
theorem pts_of {W : World} (h : laidMet Tryz.prog [("internal/strconv.powtab", .slice (ptL.map fun z => .lit (.int .i64 ((z : Nat) : Int))) [])] W) :
   ∃(b:Addr) (c:Nat),W.cell? ⟨13,0,none⟩=some (.slice (some b) 9 c)/\∀i,i<9->W.cell? (b.add i)=some (.int .i64 (pt i:Int)):=by
 obtain ⟨ps,⟨g', t', cs,fuel,p,q,hg', ht', hvar,hd,_,_⟩,_⟩:=h
 obtain rfl : 13 = g' := Option.some.inj ((show Tryz.prog.globalNamed "internal/strconv.powtab" = some 13 by kernel_rfl).symm.trans hg')
 obtain rfl:49=t' := Option.some.inj ((show (Tryz.prog.globals[13]?).map (·.type)=some 49 by kernel_rfl).symm.trans ht')
 have hc1:Tryz.prog.cellsOf 3=1:=by kernel_rfl
 rcases DataW.trod_slice Tryz.underlying49 hd with ⟨_,h2⟩ | ⟨a,len,cap,elems,rest,n,rfl,h1,h2,hb,hlc,hcm,hel,hat,_,_⟩
 · have:=congrArg Prod.fst h2
   cases this
 · have hem:elems.map (·.1)=ptL.map fun z=>(DataW.lit (.int .i64 ((z:Nat):Int)):DataW Unit):=by
     have:=congrArg Prod.fst h2;simp only [DataW.slice.injEq] at this;exact this.1.symm
   have hl9:len=9:=by
     have:=congrArg List.length hem;rw [List.length_map,List.length_map,hel] at this;exact this
   rw [hc1] at hat;refine ⟨a,cap,?_,fun i hi=>?_⟩
   · rw [World.var?_cell hg' hvar 0,<-Array.getElem?_toList,h1,hl9];rfl
   · have h3:=hat i (by omega)
     have h4:(elems.map (·.1))[i]?=some (DataW.lit (.int .i64 (pt i))):=by rw [hem,List.getElem?_map,pt_rows ⟨i,hi⟩];rfl
     rw [List.getElem?_map,Option.map_eq_some_iff] at h4;obtain ⟨y,hy,hy1⟩:=h4;rw [hy,Option.bind_eq_some_iff] at h3;obtain ⟨l,hl,ht⟩:=h3;obtain ⟨v,h5,h6,_⟩:=DataW.trod_int Tryz.underlying3 ht;have h7:v=pt i:=by rw [h6] at hy1;simpa using hy1
     rw [h5,h7,Nat.mul_one] at hl;exact cell_of_cells?_one hl
theorem info3_of {W : World} (h : laidMet Tryz.prog [("internal/strconv.float64info", .agg [.lit (.int .u64 52), .lit (.int .u64 11), .lit (.int .i64 (-1023))])] W) :
   W.cell? ⟨7,0,none⟩=some (.int .u64 52)/\W.cell? ⟨7,1,none⟩=some (.int .u64 11)/\W.cell? ⟨7,2,none⟩=some (.int .i64 (-1023)):=by
 obtain ⟨ps,⟨g', t', cs,fuel,p,q,hg', ht', hvar,hd,_,_⟩,_⟩:=h
 obtain rfl : 7 = g' := Option.some.inj ((show Tryz.prog.globalNamed "internal/strconv.float64info" = some 7 by kernel_rfl).symm.trans hg')
 obtain rfl:267=t' := Option.some.inj ((show (Tryz.prog.globals[7]?).map (·.type)=some 267 by kernel_rfl).symm.trans ht')
 have hc1:Tryz.prog.cellsOf 83=1:=by kernel_rfl
 have hc2:Tryz.prog.cellsOf 3=1:=by kernel_rfl
 obtain ⟨y0,y1,y2,n,hyy,hyl,hf0,hf1,hf2⟩:=Go.Deep.trod_struct3 Tryz.underlying267 hd
 have hym:[y0.1,y1.1,y2.1]=[DataW.lit (.int .u64 52),.lit (.int .u64 11),.lit (.int .i64 (-1023))]:=by
   have:=congrArg Prod.fst hyy;simp only [DataW.agg.injEq] at this;exact this.symm
 simp only [List.cons.injEq,and_true] at hym
 obtain ⟨v0,e0,g0,_⟩:=DataW.trod_int Tryz.underlying83 hf0
 obtain ⟨v1,e1,g1,_⟩:=DataW.trod_int Tryz.underlying83 hf1
 obtain ⟨v2,e2,g2,_⟩:=DataW.trod_int Tryz.underlying3 hf2
 have q0:v0=52:=by have:=hym.1;rw [g0] at this;simpa using this
 have q1:v1=11:=by have:=hym.2.1;rw [g1] at this;simpa using this
 have q2:v2=-1023:=by have:=hym.2.2;rw [g2] at this;simpa using this
 rw [hc1] at e0 e1
 rw [hc2] at e2
 have c0:cs[0]?=some (.int .u64 v0):=by
   rw [<-Array.getElem?_toList];have:=congrArg (·[0]?) e0
   simpa using this
 have c1:cs[1]?=some (.int .u64 v1):=by
   rw [<-Array.getElem?_toList];have:=congrArg (·[0]?) e1
   simpa using this
 have c2:cs[2]?=some (.int .i64 v2):=by
   rw [<-Array.getElem?_toList];have:=congrArg (·[0]?) e2
   simpa using this
 refine ⟨?_,?_,?_⟩
 · rw [World.var?_cell hg' hvar 0,c0,q0]
 · rw [World.var?_cell hg' hvar 1,c1,q1]
 · rw [World.var?_cell hg' hvar 2,c2,q2]
theorem slow_of {W:World} {laid:List (String × DataW Unit)} (h0:laidMetH Tryz.prog laid W) (hp:(laid.all fun x=>x.2.handleName?.isNone)=true)
   (e1 : laid.filter (fun x => x.1 == "internal/strconv.leftcheats") = [("internal/strconv.leftcheats", Go.Pinned.leftcheats)])
   (e2 : laid.filter (fun x => x.1 == "internal/strconv.float64info") = [("internal/strconv.float64info", .agg [.lit (.int .u64 52), .lit (.int .u64 11), .lit (.int .i64 (-1023))])])
   (e3 : laid.filter (fun x => x.1 == "internal/strconv.powtab") = [("internal/strconv.powtab", .slice (ptL.map fun z => .lit (.int .i64 ((z : Nat) : Int))) [])]) : Slow W := by
 rw [MakeChecks.laidMetH_plain _ _ _ hp] at h0
 have h1 := h0.filter (fun x => x.1 == "internal/strconv.leftcheats")
 have h2 := h0.filter (fun x => x.1 == "internal/strconv.float64info")
 have h3 := h0.filter (fun x => x.1 == "internal/strconv.powtab")
 rw [e1] at h1
 rw [e2] at h2
 rw [e3] at h3
 obtain ⟨a,b,c⟩:=info3_of h2
 exact ⟨cheats_of h1,pts_of h3,a,b,c⟩
end Go.Proofs.YtagkgfniihiinaaGreatDoor
namespace Go.Proofs.YtagkgfniihiinaaGreatDoor
open Go.RowKit
theorem scan_len {rp:Rp} (hrp:∀t r,rp t=some r->r<18446744073709551616) (lv:Nat) (h8:lv<=8) (many:Nat) (L:List UInt8) (v:V) (u m:Nat) (h:Aq rp lv many L=.got (v,u,m)):u<=L.length:=(scan_good hrp lv h8 many L v u m h).len
theorem headL_len {rp:Rp} {L:List UInt8} {kd n u:Nat} (h:A8 rp L=.list kd n u):u<=L.length:=(head_listG h).2.2.2
theorem index_keep:∀{t:List UInt8} {c:UInt8} (z:List UInt8),0<=Lib.indexByte t c->Lib.indexByte (t++z) c=Lib.indexByte t c
 | [],c,z,h=>by
   have h:(0:Int)<=-1:=h;omega
 | b :: t,c,z,h=>by
   rw [List.cons_append];unfold Lib.indexByte at h ⊢;by_cases hb:(b == c)=true
   · rw [if_pos hb,if_pos hb]
   · rw [if_neg hb] at h ⊢
     rw [if_neg hb];have hg:=Lib.indexByte_ge t c;split at h
     · exact absurd h (by decide)
     · rename_i h1
       have h1' : Lib.indexByte t c≠-1:=by simpa using h1
       have ih:=index_keep (t:=t) (c:=c) z (by omega);rw [ih]
theorem index_not:∀{t:List UInt8} {c:UInt8},Lib.indexByte t c<0->c ∉ t
 | [],_,_=>by simp
 | b :: t,c,h=>by
   unfold Lib.indexByte at h;by_cases hb:(b == c)=true
   · rw [if_pos hb] at h;exact absurd h (by decide)
   · rw [if_neg hb] at h
     have hg:=Lib.indexByte_ge t c;split at h
     · rename_i h1
       have h1' : Lib.indexByte t c=-1:=by simpa using h1
       have:=index_not (t:=t) (c:=c) (by omega);intro hm;rcases List.mem_cons.1 hm with e | hm
       · exact hb (by rw [e];simp)
       · exact this hm
     · omega
theorem index_more {t z:List UInt8} {c:UInt8} (h:Lib.indexByte t c<0):Lib.indexByte (t++z) c=-1\/(t.length:Int)<=Lib.indexByte (t++z) c:=index_or z (index_not h)
theorem Gj:∀(t:List UInt8) (c:UInt8),Lib.indexByte t c<t.length
 | [],c=>by
   show (-1:Int)<0;decide
 | b :: t,c=>by
   unfold Lib.indexByte;have:=Gj t c;rw [List.length_cons];split
   · omega
   · split<;>omega
theorem lineS_ext (L z:List UInt8):(∀p,A7 L=.got p->A7 (L++z)=.got p)/\(A7 L=.stop 51->A7 (L++z)=.stop 51)/\(∀q,A7 L=.stop q->q=0\/q=51):=by
 obtain ⟨z', hz'⟩:∃z', (L++z).take 4200=L.take 4200++z' := ⟨z.take (4200 - L.length),by rw [List.take_append]⟩;obtain ⟨hz0,hl⟩:((L.take 4200).length=4200->z' = [])/\(L.take 4200++z').length<=4200:=by
   have h1:(L.take 4200++z').length<=4200:=by rw [<-hz', List.length_take];omega
   refine ⟨fun h=>?_,h1⟩;rw [List.length_append,h] at h1;exact List.length_eq_zero_iff.1 (by omega)
 unfold A7;rw [hz'];generalize L.take 4200=R at hz0 hl ⊢;dsimp only;have n1:=@index_keep R 10 z';have n2:=@index_more R z' 10;have b1:=@index_keep R 13 z';have b2:=@index_more R z' 13;have n3:=Gj R 10;have b3:=Gj R 13;have n4:=Lib.indexByte_ge R 10;have n5:=Gj (R++z') 10;have b4:=Lib.indexByte_ge R 13;rw [List.length_append] at hl n5;have hlz:(R++z').length=R.length+z'.length:=List.length_append;have hz1:R.length=4200->z'.length=0:=fun h=>by rw [hz0 h];rfl
 have htk:∀k,k<=R.length->(R++z').take k=R.take k:=fun k h=>List.take_append_of_le_length h;generalize Lib.indexByte (R++z') 10=n' at *;generalize Lib.indexByte (R++z') 13=b' at *;generalize Lib.indexByte R 10=n at *;generalize Lib.indexByte R 13=b at *;rw [hlz];refine ⟨fun p hp=>?_,fun hp=>?_,fun q hp=>?_⟩
 · split at hp
   · cases hp
   · rename_i hc
     split at hp
     · cases hp
     · rename_i hn
       have e1:n' = n:=n1 (by omega);have hb:b=n - 1:=by omega
       have e2:b' = b:=b1 (by omega);rw [e1,e2,if_neg (by omega),if_neg hn,htk _ (by omega)];exact hp
 · split at hp
   · rename_i hc
     rw [if_pos];rcases hc with hc | hc | hc | hc
     · left;rw [n1 (by omega)];exact hc
     · right;left
       have e1:n' = n:=n1 (by omega);rcases Int.lt_or_le b 0 with hb | hb
       · have:=b2 hb
         omega
       · have:=b1 hb
         omega
     · have e2:b' = b:=b1 (by omega)
       have:=n2 hc.1;omega
     · have h0:=hz1 hc.2
       have:=n2 hc.1;omega
   · split at hp
     · simp at hp
     · cases hp
 · split at hp
   · simp only [Out.stop.injEq] at hp;omega
   · split at hp
     · simp only [Out.stop.injEq] at hp;omega
     · cases hp
theorem longS_ext (L z:List UInt8) (k:Nat):(∀p,Cg L k=.got p->Cg (L++z) k=.got p)/\(Cg L k=.stop 51->Cg (L++z) k=.stop 51)/\(∀q,Cg L k=.stop q->q=0\/q=51):=by
 have g1:k<L.length->L.getD k 0=(L++z).getD k 0:=fun h=>getD_app h;have g2:k+1<L.length->L.getD (k+1) 0=(L++z).getD (k+1) 0:=fun h=>getD_app h;have hlz:(L++z).length=L.length+z.length:=List.length_append;have ht:k<=L.length->(L++z).take k=L.take k:=fun h=>List.take_append_of_le_length h;unfold Cg;rw [hlz];generalize (L++z).getD k 0=a' at *;generalize (L++z).getD (k+1) 0=d' at *;generalize L.getD k 0=a at *;generalize L.getD (k+1) 0=d at *;refine ⟨fun p hp=>?_,fun hp=>?_,fun q hp=>?_⟩
 · split at hp
   · cases hp
   · rename_i hc
     split at hp
     · cases hp
     · rename_i h2
       rw [<-g1 (by omega),<-g2 (by omega),if_neg,if_neg (by omega),ht (by omega)]
       · exact hp
       · rintro (⟨_,h⟩ | ⟨_,h⟩)
         · exact hc (.inl ⟨by omega,h⟩)
         · exact hc (.inr ⟨by omega,h⟩)
 · split at hp
   · rename_i hc
     rw [if_pos];rcases hc with ⟨h1,h2⟩ | ⟨h1,h2⟩
     · exact .inl ⟨by omega,by rw [<-g1 h1];exact h2⟩
     · exact .inr ⟨by omega,by rw [<-g2 h1];exact h2⟩
   · split at hp
     · simp at hp
     · cases hp
 · split at hp
   · simp only [Out.stop.injEq] at hp;omega
   · split at hp
     · simp only [Out.stop.injEq] at hp;omega
     · cases hp
theorem headS_ext {rp:Rp} (L z:List UInt8):((∀q,A8 rp L=.stop q->q=0\/q=51))/\(A8 rp L≠.stop 0->A8 rp (L++z)=A8 rp L):=by
 cases L with
 | nil=>exact ⟨fun q h=>by unfold A8 at h;simp only [Head.stop.injEq] at h;omega,fun h=>absurd rfl h⟩
 | cons c L=>
   rw [List.cons_append];unfold A8;by_cases hk0:Ac c=0
   · simp only [if_pos hk0]
     exact ⟨fun q h=>by simp only [Head.stop.injEq] at h;omega,fun _=>trivial⟩
   simp only [if_neg hk0];obtain ⟨l1,l2,l3⟩:=lineS_ext L z;cases hl:A7 L with
   | stop e=>
     dsimp only;have he:=l3 e hl;refine ⟨fun q h=>by simp only [Head.stop.injEq] at h;omega,fun h=>?_⟩;have:e=51:=by
       rcases he with rfl | rfl
       · exact absurd rfl h
       · rfl
     subst this;rw [l2 hl]
   | got p=>
     obtain ⟨t,u⟩:=p;rw [l1 _ hl];dsimp only;obtain ⟨u1,u2,u3⟩:=lineS_len hl;by_cases hm:t=[45,49]/\(Ac c=4\/Ac c=5)
     · simp only [if_pos hm]
       exact ⟨fun q h=>(by cases h),fun _=>trivial⟩
     simp only [if_neg hm];by_cases hk:Ac c=4\/Ac c=10\/Ac c=11
     · simp only [if_pos hk]
       cases hn:numS t 4096 with
       | none=>exact ⟨fun q h=>by simp only [Head.stop.injEq] at h;omega,fun _=>rfl⟩
       | some n=>
         dsimp only;rw [List.drop_append_of_le_length u1];obtain ⟨s1,s2,s3⟩:=longS_ext (L.drop u) z n;cases hs:Cg (L.drop u) n with
         | stop e=>
           dsimp only;have he:=s3 e hs;refine ⟨fun q h=>by simp only [Head.stop.injEq] at h;omega,fun h=>?_⟩;have:e=51:=by
             rcases he with rfl | rfl
             · exact absurd rfl h
             · rfl
           subst this;rw [s2 hs]
         | got s=>
           rw [s1 _ hs];dsimp only;refine ⟨fun q h=>?_,fun _=>rfl⟩;split at h
           · cases h
           · simp only [Head.stop.injEq] at h;omega
     simp only [if_neg hk];refine ⟨fun q h=>?_,fun _=>trivial⟩
     repeat' (split at h)
     all_goals first | (simp only [Head.stop.injEq] at h;omega) | (cases h)
theorem scanN_ext {f:Nat->List UInt8->Out (V × Nat × Nat)} (hf:∀m L z,(∀p,f m L=.got p->f m (L++z)=.got p)/\(f m L=.stop 51->f m (L++z)=.stop 51)/\(∀q,f m L=.stop q->q=0\/q=51)/\(∀v u m', f m L=.got (v,u,m')->u<=L.length)) :
   ∀(n m:Nat) (L z:List UInt8),(∀p,Be f n m L=.got p->Be f n m (L++z)=.got p)/\(Be f n m L=.stop 51->Be f n m (L++z)=.stop 51)/\(∀q,Be f n m L=.stop q->q=0\/q=51)
 | 0,m,L,z=>⟨fun p h=>h,fun h=>h,fun q h=>by unfold Be at h;cases h⟩
 | n+1,m,L,z=>by
   unfold Be;obtain ⟨f1,f2,f3,f4⟩:=hf m L z;cases h:f m L with
   | stop e=>
     dsimp only;refine ⟨fun p hp=>(by cases hp),fun hp=>?_,fun q hp=>?_⟩
     · simp only [Out.stop.injEq] at hp
       subst hp;rw [f2 h]
     · simp only [Out.stop.injEq] at hp
       have:=f3 _ h;omega
   | got p=>
     obtain ⟨v,u,m'⟩:=p;rw [f1 _ h];dsimp only;rw [List.drop_append_of_le_length (f4 _ _ _ h)];obtain ⟨k1,k2,k3⟩:=scanN_ext hf n m' (L.drop u) z;cases h2:Be f n m' (L.drop u) with
     | stop e=>
       dsimp only;refine ⟨fun p hp=>(by cases hp),fun hp=>?_,fun q hp=>?_⟩
       · simp only [Out.stop.injEq] at hp
         subst hp;rw [k2 h2]
       · simp only [Out.stop.injEq] at hp
         have:=k3 _ h2;omega
     | got p2=>
       rw [k1 _ h2];exact ⟨fun p hp=>hp,fun hp=>hp,fun q hp=>(by cases hp)⟩
theorem scan_ext {rp:Rp} (hrp:∀t r,rp t=some r->r<18446744073709551616):∀(lv:Nat),lv<=8->∀(m:Nat) (L z:List UInt8),(∀p,Aq rp lv m L=.got p->Aq rp lv m (L++z)=.got p)/\(Aq rp lv m L=.stop 51->Aq rp lv m (L++z)=.stop 51)/\(∀q,Aq rp lv m L=.stop q->q=0\/q=51)
 | 0,_,m,L,z=>by
   obtain ⟨h1,h2⟩:=headS_ext (rp:=rp) L z;unfold Aq;cases h:A8 rp L with
   | stop e=>
     dsimp only;have he:=h1 e h;refine ⟨fun p hp=>(by cases hp),fun hp=>?_,fun q hp=>?_⟩
     · simp only [Out.stop.injEq] at hp
       subst hp;rw [h2 (by rw [h];simp),h]
     · simp only [Out.stop.injEq] at hp
       omega
   | leaf v u=>
     rw [h2 (by rw [h];simp),h];exact ⟨fun p hp=>hp,fun hp=>hp,fun q hp=>(by cases hp)⟩
   | list kd n u=>
     rw [h2 (by rw [h];simp),h];exact ⟨fun p hp=>hp,fun hp=>hp,fun q hp=>by simp only [Out.stop.injEq] at hp;omega⟩
 | lv+1,hlv,m,L,z=>by
   obtain ⟨h1,h2⟩:=headS_ext (rp:=rp) L z;unfold Aq;cases h:A8 rp L with
   | stop e=>
     dsimp only;have he:=h1 e h;refine ⟨fun p hp=>(by cases hp),fun hp=>?_,fun q hp=>?_⟩
     · simp only [Out.stop.injEq] at hp
       subst hp;rw [h2 (by rw [h];simp),h]
     · simp only [Out.stop.injEq] at hp
       omega
   | leaf v u=>
     rw [h2 (by rw [h];simp),h];exact ⟨fun p hp=>hp,fun hp=>hp,fun q hp=>(by cases hp)⟩
   | list kd n u=>
     rw [h2 (by rw [h];simp),h];dsimp only;by_cases hc:1000<m+n\/(kd=14/\(n=0\/lv<7))
     · simp only [if_pos hc]
       exact ⟨fun p hp=>hp,fun _=>trivial,fun q hp=>by simp only [Out.stop.injEq] at hp;omega⟩
     · simp only [if_neg hc]
       rw [List.drop_append_of_le_length (headL_len h)];obtain ⟨k1,k2,k3⟩:=scanN_ext (f:=Aq rp lv) (fun m L z=>by
         obtain ⟨a1,a2,a3⟩:=scan_ext hrp lv (by omega) m L z;exact ⟨a1,a2,a3,fun v u m' h=>scan_len hrp lv (by omega) m L v u m' h⟩) n (m+n) (L.drop u) z
       cases hs:Be (Aq rp lv) n (m+n) (L.drop u) with
       | stop e=>
         dsimp only;refine ⟨fun p hp=>(by cases hp),fun hp=>?_,fun q hp=>?_⟩
         · simp only [Out.stop.injEq] at hp
           subst hp;rw [k2 hs]
         · simp only [Out.stop.injEq] at hp
           have:=k3 _ hs;omega
       | got p=>
         rw [k1 _ hs];exact ⟨fun p hp=>hp,fun hp=>hp,fun q hp=>(by cases hp)⟩
theorem plain_of {s:ByteArray} {neg:Bool} {c:UInt8} {l:List UInt8} (h:s.data.toList=(if neg then [45] else [])++c :: l) (hc:isD c=true):Plain s:=by
 obtain ⟨a,b,d⟩:=num_head h hc;exact ⟨a,b,d⟩
theorem numR_zero:numR false [48] 1 0=0:=by
 unfold numR;rw [if_pos (by decide +kernel)]
theorem parO_text {n:Nat} (hn:n<18446744073709551616) {s:ByteArray} (hs:s.data.toList=Bl n):ParO s (some (D2 n)):=by
 cases hnan:nanF n with
 | true=>
   rw [Eh hnan] at hs;rw [txt_eq hs,(canon_nan n).2 hnan];exact .nan
 | false=>
   have hc:D2 n=n:=by unfold D2;rw [hnan];rfl
   rw [C5 hnan] at hs;have hsp:n=sgB (decide (9223372036854775808<=n))+n % 9223372036854775808:=word_split n hn;obtain ⟨sg,hsg⟩:∃sg,sg=decide (9223372036854775808<=n):=⟨_,rfl⟩;obtain ⟨r,hr⟩:∃r,r=n % 9223372036854775808:=⟨_,rfl⟩;have hr9:r<=9218868437227405312:=by
     unfold nanF at hnan;have:=of_decide_eq_false hnan;omega
   rw [<-hsg,<-hr] at hsp hs;rw [hc,hsp];clear hc hnan hsg hsp hr;rcases Nat.eq_or_lt_of_le hr9 with h | h
   · subst h
     have hb:Br 9218868437227405312=[105,110,102]:=by unfold Br;rw [if_pos rfl]
     rw [hb] at hs;rw [txt_eq hs];cases sg
     · exact .inf
     · exact .minf
   · rcases Nat.eq_zero_or_pos r with h0 | h0
     · subst h0
       rw [Dr] at hs;have hd0:Lib.decDigits 0=[48]:=by decide +kernel
       have hf:=whole_form (s:=s) (neg:=sg) (n:=0) (by rw [hs,hd0]) (by decide +kernel);rw [hd0,show Lib.nDigits 0=1 by decide +kernel] at hf;have hz:s.size<=64:=by rw [Ah,hs];cases sg<;>simp [A3]
       have hrt:Bn s.data.toList=true:=by
         rw [hs];cases sg<;>decide +kernel
       have hp:Plain s:=plain_of (neg:=sg) (c:=48) (l:=[]) (by rw [hs];rfl) (by decide);have:=ParO.num hp hz hrt hf (by rw [numR_zero];decide);rw [numR_zero] at this;exact this
     · obtain ⟨hz,d,L,m,x,hR⟩:=Cn h0 h hs
       obtain ⟨c,l,h1,hc⟩:=hR.head;have hnum:numR d L m x=r:=by
         obtain ⟨R,hI,hPn⟩:=Fa hR.pos hR.lt (p:=expF d L m x) (by have:=hR.low;omega) (by have:=hR.high;omega);have hRr:R=r:=hI.uniq (Nat.pow_pos (by decide)) hR.near;unfold numR;have hlow:=hR.low;have hhigh:=hR.high;have hpos:=hR.pos;rw [if_neg (by omega),if_neg (by omega),if_neg (by omega),if_neg (by rw [hR.whole];decide),hPn,hRr,Nat.min_eq_left (Nat.le_of_lt h)]
       have:=ParO.num (plain_of h1 hc) (by omega) hR.right hR.txt (by rw [hnum];omega);rw [hnum] at this;exact this
end Go.Proofs.YtagkgfniihiinaaGreatDoor
namespace Go.Proofs.YtagkgfniihiinaaGreatDoor
open Go.ChangeShapes Go.WideShapes Go.ChangeAt Go.RowKit
theorem floF_of {W:World} {laid:List (String × DataW Unit)} (h0:laidMetH Tryz.prog laid W) (hp:(laid.all fun x=>x.2.handleName?.isNone)=true)
   (e1 : laid.filter (fun x => x.1 == "internal/strconv.uint64pow10") = [("internal/strconv.uint64pow10", Lib.tabData .u64 Lib.pow10Tab)])
   (e2 : laid.filter (fun x => x.1 == "internal/strconv.pow10Tab") = [("internal/strconv.pow10Tab", Go.Pinned.pow10Tab)]) : Flo W := by
 rw [MakeChecks.laidMetH_plain _ _ _ hp] at h0
 have h1 := h0.filter (fun x => x.1 == "internal/strconv.uint64pow10")
 have h2 := h0.filter (fun x => x.1 == "internal/strconv.pow10Tab")
 rw [e1] at h1
 rw [e2] at h2
 exact ⟨pows_of h2,Lib.tabIs_of_head (g:=5) (t:=223) (e:=60) (n:=20) (by kernel_rfl) (by kernel_rfl) Tryz.underlying223 Tryz.underlying60 (by kernel_rfl) (by kernel_rfl) h1⟩
theorem star_errT : "*" ++ "errors.errorString" = "*errors.errorString" := by decide
theorem row_errT (u : TypeId) (h : Tryz.prog.typeName? 3 u = some "*errors.errorString") : u = 246 :=
 typeName_ptr_named (nm := "errors.errorString") (by rw [star_errT]; kernel_rfl) (by kernel_rfl) (by decide) u (by rw [star_errT]; exact h)
theorem glob_rngT : Tryz.prog.globalNamed "strconv.ErrRange" = some 4 := by kernel_rfl
theorem rng_of {W:World} {laid:List (String × DataW Unit)} (h0:laidMetH Tryz.prog laid W) (hp:(laid.all fun x=>x.2.handleName?.isNone)=true)
   (e3 : laid.filter (fun x => x.1 == "strconv.ErrRange") = [("strconv.ErrRange", .iface "*errors.errorString" (.ptr (.agg [.lit (.string [118, 97, 108, 117, 101, 32, 111, 117, 116, 32, 111, 102, 32, 114, 97, 110, 103, 101])])))]) : Rng W := by
 rw [MakeChecks.laidMetH_plain _ _ _ hp] at h0
 have h3 := h0.filter (fun x => x.1 == "strconv.ErrRange")
 rw [e3] at h3
 obtain ⟨a,s,hv,_⟩:=laid_sentinel (g:=4) (ti:=106) (tp:=246) (te:=248) h3 glob_rngT (by kernel_rfl) Tryz.underlying106 row_errT Tryz.underlying246 Tryz.underlying248 rfl rfl Tryz.underlying9 (by kernel_rfl) (by kernel_rfl)
 exact ⟨_,_,(World.var?_cell glob_rngT hv 0).trans rfl⟩
end Go.Proofs.YtagkgfniihiinaaGreatDoor
namespace Go.Proofs.YtagkgfniihiinaaGreatDoor
open Go.RowKit Go.Joins
def Byts (w:World) (a:Option Addr) (s:ByteArray):Prop:=s.size=0\/∃b o,a=some ⟨b,o,none⟩/\Lib.Bytes w b o s
theorem Byts.below {w w' : World} {a:Option Addr} {s:ByteArray} (h:Byts w a s) (hb:Below w.heap.size w w'):Byts w' a s:=by
 rcases h with h | ⟨b,o,h1,h2⟩
 · exact .inl h
 · exact .inr ⟨b,o,h1,fun i hi=>Aa hb _ _ (h2 i hi)⟩
theorem Row.byts {B:Nat} {w:World} {v:Value} {s:ByteArray} (h:Row B w v s) (h0:0<s.size):∃g c,v=.slice (some ⟨g,0,none⟩) s.size c/\s.size<=c/\g<w.heap.size/\Lib.Bytes w g 0 s:=by
 obtain ⟨ad,cap,hv,hl,hc⟩:=Reads.of_owns h.own;rcases h.own.2 with h2 | ⟨g,ca,cur,hg,_,hblk,hle,_⟩
 · omega
 rw [hg] at hv;cases hv
 have hB:Lib.Bytes w g 0 s:=fun i hi=>by
   obtain ⟨b', o', ha', hc'⟩:=hc i _ (cells_at s i hi);cases ha'
   exact hc'
 exact ⟨g,_,hg,hle,World.block_lt_of_cell? _ _ (hB 0 h0),hB⟩
theorem open_bytes {H:Type} {enc:TypeId × Value->H} {w:World} {fuel:Nat} {a:Option Addr} {n cap:Nat} {x:DataW H × List MemPlace} (h:DataW.trod enc Tryz.prog w 0 (fun _=>true) true fuel 27 [.slice a n cap]=some x) :
   n<=maxLen/\∃s:ByteArray,s.size=n/\Byts w a s:=by
 rcases Go.Deep.open_slice Tryz.underlying27 h with h0 | ⟨ad,len', cap', m,k,D,Pl,hcs,hb,hl,hm,hmm,hx,hi⟩
 · obtain ⟨h0,_⟩:=h0
   simp at h0;obtain ⟨rfl,rfl,rfl⟩:=h0;exact ⟨Nat.zero_le _,⟨#[]⟩,rfl,.inl rfl⟩
 · simp at hcs
   obtain ⟨rfl,rfl,rfl⟩:=hcs;simp at hmm;subst hmm;refine ⟨Nat.le_trans hl hm,?_⟩;have hC:Tryz.prog.cellsOf 5=1:=by kernel_rfl
   obtain ⟨xs,hxl,hxr⟩:=exists_list (R:=fun i (c:UInt8)=>w.cell? (ad.add i)=some (.int .u8 (c.toNat:Int))) n (fun i him=>by
     obtain ⟨cs', hc,ht'⟩:=hi i (by omega);obtain ⟨z,rfl,_,hz⟩:=DataW.trod_int Tryz.underlying5 ht';rw [hC] at hc;obtain ⟨_,hcl,hat⟩:=World.cells?_some hc;have h0:=hat 0 (by omega);have hz2:0<=z/\z<=255:=by
       have h1:(decide (IntKind.u8.min<=z) && decide (z<=IntKind.u8.max))=true:=hz;rw [Bool.and_eq_true,decide_eq_true_eq,decide_eq_true_eq] at h1;exact h1
     refine ⟨UInt8.ofNat z.toNat,?_⟩;have e:((UInt8.ofNat z.toNat).toNat:Int)=z:=by
       rw [UInt8.toNat_ofNat'];omega
     rw [e];simpa [Addr.add] using h0)
   refine ⟨⟨xs.toArray⟩,by rw [<-hxl];exact Gh _,?_⟩;rcases Nat.eq_zero_or_pos n with h0 | h0
   · exact .inl (by rw [Gh];show xs.length=0;omega)
   · obtain ⟨b,o,rfl⟩:=add_plain (hxr 0 (by omega))
     refine .inr ⟨b,o,rfl,fun i hi=>?_⟩;have hil:i<xs.length:=by rw [Gh] at hi;exact hi
     have:=hxr i hil;rw [add_mk] at this;rw [this];rfl
theorem open_bytesC {H:Type} {enc:TypeId × Value->H} {w:World} {fuel:Nat} {a:Option Addr} {n cap:Nat} {x:DataW H × List MemPlace} (h:DataW.trod enc Tryz.prog w 0 (fun _=>true) true fuel 27 [.slice a n cap]=some x) :
   n<=maxLen/\n<=cap/\∃s:ByteArray,s.size=n/\Byts w a s:=by
 have h1:=open_bytes h
 refine ⟨h1.1,?_,h1.2⟩
 rcases Go.Deep.open_slice Tryz.underlying27 h with h0 | ⟨ad,len', cap', m,k,D,Pl,hcs,hb,hl,hm,hmm,hx,hi⟩
 · obtain ⟨h0,_⟩:=h0
   simp at h0;obtain ⟨rfl,rfl,rfl⟩:=h0;exact Nat.le_refl _
 · simp at hcs
   obtain ⟨rfl,rfl,rfl⟩:=hcs;exact hl
theorem parse_byts {rp:Rp} (hrp:RpAll rp) {w:World} {a:Option Addr} {s:ByteArray} {c:Nat} (h:Byts w a s) (hc:s.size<=c) (hbig:s.size<=1000000000) (hN:Nums w) (hY:Lay w) :
   Calls Tryz.prog 24 #[.slice a s.size c] w (Fz (Aq rp 8 1 s.data.toList) w):=by
 rcases h with h0 | ⟨b,o,rfl,h2⟩
 · have e:s.data.toList=[]:=List.length_eq_zero_iff.1 (by rw [Array.length_toList];exact h0)
   rw [e,h0,(scan_nil (rp:=rp) (lv:=8) (many:=1)).1];exact parse_none a c w
 · rcases Nat.eq_zero_or_pos s.size with h0 | h0
   · have e:s.data.toList=[]:=List.length_eq_zero_iff.1 (by rw [Array.length_toList];exact h0)
     rw [e,h0,(scan_nil (rp:=rp) (lv:=8) (many:=1)).1];exact parse_none _ c w
   · exact R2.parse_any h2 rfl hc hbig (hrp.env hN hY) (World.block_lt_of_cell? _ _ (h2 0 h0)) (hrp.need 8 1 _)
end Go.Proofs.YtagkgfniihiinaaGreatDoor
namespace Go.Proofs.YtagkgfniihiinaaGreatDoor
open Go.RowKit
open Classical in
noncomputable def rpA:Rp:=⟨fun t=>if h:∃r,r<18446744073709551616/\Bl r=t then some (D2 h.choose) else (parO_ex ⟨t.toArray⟩).choose,fun _=>True⟩
open Classical in
theorem rpA_is (t:List UInt8):ParO ⟨t.toArray⟩ (rpA t):=by
 show ParO ⟨t.toArray⟩ (if h:∃r,r<18446744073709551616/\Bl r=t then some (D2 h.choose) else (parO_ex ⟨t.toArray⟩).choose);by_cases h:∃r,r<18446744073709551616/\Bl r=t
 · rw [dif_pos h]
   have hc:=h.choose_spec;exact parO_text hc.1 hc.2.symm
 · rw [dif_neg h]
   exact (parO_ex ⟨t.toArray⟩).choose_spec
open Classical in
theorem rpA_ok:RpOk rpA:=⟨fun r hr=>by
 have hex:∃r', r' < 18446744073709551616/\Bl r' = Bl r:=⟨r,hr,rfl⟩;show (if h:∃r', r' < 18446744073709551616/\Bl r' = Bl r then some (D2 h.choose) else (parO_ex ⟨(Bl r).toArray⟩).choose)=_;rw [dif_pos hex];have hc:=hex.choose_spec;rw [text_inj hc.1 hr hc.2],fun _ _=>trivial⟩
theorem rpA_all:RpAll rpA:=⟨rpA_is,fun _=>trivial⟩
end Go.Proofs.YtagkgfniihiinaaGreatDoor
namespace Go.Proofs.YtagkgfniihiinaaGreatDoor
open Go.RowKit Go.Joins
theorem fine_checked {v:V} (h:v.fine 8=true) (hc:v.count<=1000):E8 v=true:=by
 rw [<-right_check];unfold E7;rw [if_pos ⟨h,hc⟩];rfl
set_option maxRecDepth 100000 in
set_option maxHeartbeats 6400000 in
theorem againL_any (a:Option Addr) (s:ByteArray) (c:Nat) (w:World) (hm:Byts w a s) (hc:s.size<=c) (hN:Nums w) (hF:Flo w) (hY:Lay w) :
   Calls Tryz.prog 13 #[.slice a s.size c] w fun e w' => e=.returned (.bool true)/\Below w.heap.size w w' := by
 obtain ⟨n,hn⟩:∃n,n=s.size:=⟨_,rfl⟩
 have hal:=alive05_any (w:=w) hN
 replace hal:=Hd hal
 by_cases h20:5000<n
 · rw [<-hn]
   have h20i:(5000:Int)<(n:Int):=by omega
   replace hn:=Hd hn;replace hm:=Hd hm
   go_enter Tryz.func13,Tryz.ntmps13
   go_wp2_with fail
   refine hal.out.mono ?_;rintro e w1 ⟨rfl,hb1⟩;go_wp2_with fail
   go_ret;exact ⟨rfl,hb1⟩
 have hps:=fun (W:World) (hW:Below w.heap.size w W)=>parse_byts rpA_all (hm.below hW) hc (by omega) (hN.below hW) (hY.below hW)
 have h20i:¬(5000:Int)<(n:Int):=by omega
 rw [<-hn] at hps ⊢
 have hsl:s.data.toList.length=n:=by rw [hn,Array.length_toList];rfl
 cases ho:Aq rpA 8 1 s.data.toList with
 | stop q=>
   have hq:=(scan_ext (rp:=rpA) (fun t r h=>rpA_all.lt t r h) 8 (Nat.le_refl _) 1 s.data.toList []).2.2 q ho;rw [ho] at hps;clear ho;replace hps:=Hd hps;replace hn:=Hd hn;replace hm:=Hd hm;rcases hq with rfl | rfl
   all_goals
     go_enter Tryz.func13,Tryz.ntmps13
     go_wp2_with fail
     refine hal.out.mono ?_
     rintro e w1 ⟨rfl,hb1⟩
     clear hal
     have hps1:=hps.out w1 hb1
     replace hps1:=Hd hps1
     replace hb1:=Hd hb1
     go_wp2_with fail
     refine hps1.out.mono ?_
     rintro e w2 ⟨rfl,hb2⟩
     clear hps1
     have hb02:=hb1.out.trans (hb2.mono hb1.out.size)
     have hth:=Eg w2 26
     have hnv:=new_val w2 26 [.int .i64 0,.string (⟨#[]⟩:ByteArray),.int .i64 0,.float .f64 0,.bool false,.slice none 0 0] rfl
     replace hth:=Hd hth
     replace hnv:=Hd hnv
     have tok1:True:=trivial
     go_upto_region 6 with (have _t:=tok1;refine wpList_store_mid rfl 26 _ _ rfl w2.heap.size 0 _ rfl rfl hth.out Ai (one6 _ _ _ _ _ _ _ _) ?_;clear tok1 _t)
     generalize (w2.alloc (.cells #[Value.int .i64 0,.string ⟨#[]⟩,.int .i64 0,.float .f64 0,.bool false,.slice none 0 0] 26)).setCells w2.heap.size 0 [Value.int .i64 0,.string (⟨#[]⟩:ByteArray),.int .i64 0,.float .f64 0,.bool false,.slice none 0 0]=w3 at hnv ⊢
     obtain ⟨hb3,hr3,_⟩:=hnv.out
     obtain ⟨G3,hGG3⟩:∃G,G=w2.heap.size:=⟨_,rfl⟩
     rw [<-hGG3] at hr3 ⊢
     replace hGG3:=Hd hGG3
     clear hnv hth
     have hb03:=hb02.trans (hb3.mono hb02.size)
     replace hb03:=Hd hb03
     clear hr3 hb2 hb02 hb3
     go_wp2_with fail
     go_ret
     exact ⟨rfl,hb03.out⟩
 | got r=>
   obtain ⟨v,u,m⟩:=r;have hg:=scan_good (rp:=rpA) (fun t r h=>rpA_all.lt t r h) 8 (Nat.le_refl _) 1 s.data.toList v u m ho;rw [ho] at hps;have hvc:v.count<=1000:=by have:=hg.most (by decide);have:=hg.all;omega
   have hu0:((u:Int) == 0)=false:=by have:=hg.pos;rw [beq_eq_false_iff_ne];omega
   have hun:(u:Int)<=(n:Int):=by have:=hg.len;omega
   have hvf:v.fine 8=true:=hg.fine;have hvr:=hg.ranged;have hrb:=fine_checked hvf hvc;have hvs:=fine_sized v 8 hvf;obtain ⟨X,hX⟩:∃X:ByteArray,X=⟨v.wire.toArray⟩:=⟨_,rfl⟩;have hXl:X.data.toList=v.wire:=by rw [hX]
   have hXz:X.size=v.wire.length:=by rw [Gh,hXl]
   have hwl:=wire_len v 8 hvf hvr (by omega);have hX0:0<X.size:=by omega
   obtain ⟨s1,s2⟩:=scan_wire rpA_ok v 8 1 [] hvf hvr (fun _=>Nat.le_refl _) (by omega);rw [List.append_nil,<-hXl] at s1 s2;rw [hXl,<-hXz] at s1;have hby:=fun (W:World) (hW:Below w.heap.size w W) (a1:Option Addr) (c1:Nat) (hv:RV W.cell? (At v.kind v.text v.int v.real v.flag a1 v.list.length c1) v)=>bytes3_any v a1 c1 8 W hv hvf hvr (by omega) (((LaidV.of hN hF).below hW (Nat.le_refl _)).mono hW.size);rw [<-hX] at hby;have hnn:=norm_norm v;obtain ⟨z,hz⟩:∃z,z=v.norm:=⟨_,rfl⟩;rw [<-hz] at s1 hnn;have hvz:v.norm=z.norm:=by rw [hnn,hz]
   clear ho hg hnn;have hps2:=fun (W:World) (hW:Below w.heap.size w W) (g c1:Nat) (hg:Lib.Bytes W g 0 X) (hgl:g<W.heap.size) (hc1:X.size<=c1)=>R2.parse_any (rp:=rpA) hg rfl hc1 (by omega) (rpA_all.env (hN.below hW) (hY.below hW)) hgl (rpA_all.need 8 1 _);rw [hXl] at hps2;rw [s1] at hps2;replace hps:=Hd hps;replace hps2:=Hd hps2;replace hby:=Hd hby;replace hn:=Hd hn;replace hm:=Hd hm;replace hsl:=Hd hsl;replace hX:=Hd hX;replace hXl:=Hd hXl;replace hXz:=Hd hXz;replace hwl:=Hd hwl;replace hz:=Hd hz;replace hvz:=Hd hvz;replace hvf:=Hd hvf;replace hrb:=Hd hrb;clear s1 s2
   go_enter Tryz.func13,Tryz.ntmps13
   go_wp2_with fail
   refine hal.out.mono ?_;rintro e w1 ⟨rfl,hb1⟩;clear hal;have hps1:=hps.out w1 hb1;replace hps1:=Hd hps1;replace hb1:=Hd hb1;go_wp2_with fail
   refine hps1.out.mono ?_;rintro e w2 ⟨a1,c1,rfl,hrv1,hb2⟩;clear hps1;have hb02:=hb1.out.trans (hb2.mono hb1.out.size);replace hrv1:=Hd hrv1;have hth:=Eg w2 26;have hnv:=new_val w2 26 [.int .i64 v.kind,.string v.text,.int .i64 v.int,.float .f64 v.real,.bool v.flag,.slice a1 v.list.length c1] rfl;replace hth:=Hd hth;replace hnv:=Hd hnv;have tok1:True:=trivial;go_upto_region 6 with (have _t:=tok1;refine wpList_store_mid rfl 26 _ _ rfl w2.heap.size 0 _ rfl rfl hth.out Ai (one6 _ _ _ _ _ _ _ _) ?_;clear tok1 _t)
   generalize (w2.alloc (.cells #[Value.int .i64 0,.string ⟨#[]⟩,.int .i64 0,.float .f64 0,.bool false,.slice none 0 0] 26)).setCells w2.heap.size 0 [Value.int .i64 v.kind,.string v.text,.int .i64 v.int,.float .f64 v.real,.bool v.flag,.slice a1 v.list.length c1]=w3 at hnv ⊢;obtain ⟨hb3,hr3,_⟩:=hnv.out;obtain ⟨G3,hGG3⟩:∃G,G=w2.heap.size:=⟨_,rfl⟩;rw [<-hGG3] at hr3 ⊢;replace hGG3:=Hd hGG3;clear hnv hth;have hb03:=hb02.trans (hb3.mono hb02.size);have hrv3:=(hrv1.out.mono newer_all).mono (Aa hb3);have hby3:=hby.out w3 hb03 a1 c1 hrv3;replace hby3:=Hd hby3;replace hb03:=Hd hb03;have hr39:=hr3;replace hr39:=Hd hr39;replace hrv3:=Hd hrv3;have p0:=hr3 0 _ rfl;have p1:=hr3 1 _ rfl;have p2:=hr3 2 _ rfl;have p3:=hr3 3 _ rfl;have p4:=hr3 4 _ rfl;have p5:=hr3 5 _ rfl;rw [Nat.zero_add] at p0 p1 p2 p3 p4 p5;clear hrv1 hb2 hb02 hb3 hr3;go_wp2_with fail
   refine hby3.out.mono ?_;rintro e w4 ⟨b7,rfl,hR7,hb4⟩;clear hby3 p0 p1 p2 p3 p4 p5;obtain ⟨g7,c7,rfl,hc7,hg7,hB7⟩:=hR7.byts hX0;have hb04:=hb03.out.trans (hb4.mono hb03.out.size);have hps4:=hps2.out w4 hb04 g7 c7 hB7 hg7 hc7;have hr4:=Gc hb4 hr39.out;have hrv4:=hrv3.out.mono (Aa hb4);replace hps4:=Hd hps4;replace hb04:=Hd hb04;replace hr4:=Hd hr4;replace hrv4:=Hd hrv4;clear hR7 hB7 hb4 hr39 hrv3 hb03;go_wp2_with fail
   refine hps4.out.mono ?_;rintro e w5 ⟨a5,c5,rfl,hrv5,hb5⟩;clear hps4;have hb05:=hb04.out.trans (hb5.mono hb04.out.size);have hr45:=Gc hb5 hr4.out;have hrv45:=hrv4.out.mono (Aa hb5);replace hr45:=Hd hr45;replace hrv45:=Hd hrv45;replace hrv5:=Hd hrv5;have hth:=Eg w5 26;have hnv:=new_val w5 26 [.int .i64 z.kind,.string z.text,.int .i64 z.int,.float .f64 z.real,.bool z.flag,.slice a5 z.list.length c5] rfl;replace hth:=Hd hth;replace hnv:=Hd hnv;have tok1:True:=trivial;go_upto_region 10 with (have _t:=tok1;refine wpList_store_mid rfl 26 _ _ rfl w5.heap.size 0 _ rfl rfl hth.out Ai (one6 _ _ _ _ _ _ _ _) ?_;clear tok1 _t)
   generalize (w5.alloc (.cells #[Value.int .i64 0,.string ⟨#[]⟩,.int .i64 0,.float .f64 0,.bool false,.slice none 0 0] 26)).setCells w5.heap.size 0 [Value.int .i64 z.kind,.string z.text,.int .i64 z.int,.float .f64 z.real,.bool z.flag,.slice a5 z.list.length c5]=w6 at hnv ⊢;obtain ⟨hb6,hr6,_⟩:=hnv.out;obtain ⟨G6,hGG6⟩:∃G,G=w5.heap.size:=⟨_,rfl⟩;rw [<-hGG6] at hr6 ⊢;replace hGG6:=Hd hGG6;clear hnv hth;have hb06:=hb05.trans (hb6.mono hb05.size);have hr46:=Gc hb6 hr45.out;have hrv46:=hrv45.out.mono (Aa hb6);have hsm:∀W,Below w6.heap.size w6 W->Calls Tryz.prog 19 #[.agg #[.int .i64 v.kind,.string v.text,.int .i64 v.int,.float .f64 v.real,.bool v.flag,.slice a1 v.list.length c1],.agg #[.int .i64 z.kind,.string z.text,.int .i64 z.int,.float .f64 z.real,.bool z.flag,.slice a5 z.list.length c5]] W fun e w' => e=.returned (.bool true)/\Below W.heap.size W w' := fun W hW=>
     (same03_any v z a1 v.list.length c1 a5 z.list.length c5 W (hrv46.mono (Aa hW)) (((hrv5.out.mono newer_all).mono (Aa hb6)).mono (Aa hW)) (by omega)).mono fun e w' ⟨q,he,hq,hb⟩=>⟨by rw [he,hq.2 hvz.out],hb⟩
   have hrr:=fun (W:World) (hW:Below w6.heap.size w6 W)=>rright_any v a1 c1 W (hrv46.mono (Aa hW)) hvs (by omega);rw [hrb.out] at hrr;replace hsm:=Hd hsm;replace hrr:=Hd hrr;replace hb06:=Hd hb06;have p0:=hr46 0 _ rfl;have p1:=hr46 1 _ rfl;have p2:=hr46 2 _ rfl;have p3:=hr46 3 _ rfl;have p4:=hr46 4 _ rfl;have p5:=hr46 5 _ rfl;rw [Nat.zero_add] at p0 p1 p2 p3 p4 p5;have r0:=hr6 0 _ rfl;have r1:=hr6 1 _ rfl;have r2:=hr6 2 _ rfl;have r3:=hr6 3 _ rfl;have r4:=hr6 4 _ rfl;have r5:=hr6 5 _ rfl;rw [Nat.zero_add] at r0 r1 r2 r3 r4 r5;have hl3:G3<w6.heap.size:=World.block_lt_of_cell? _ _ p0;have hl6:G6<w6.heap.size:=World.block_lt_of_cell? _ _ r0;clear hr4 hrv4 hb04 hb05 hb5 hr45 hrv45 hb6 hr46 hrv46 hr6;go_upto_region 10 with fail
   refine F5 ?_;repeat (go_big_quiet_step ((first | (go_at_call 19;(with_reducible refine A0 (hsm.out _ ?_));exact Ae _ _) | (go_at_call 18;(with_reducible refine A0 (hrr.out _ ?_));exact Ae _ _))))
   refine wpQuiet_nil ?_;rintro _ ⟨xq,rfl⟩;have hS:=Ae w6 xq;obtain ⟨w7,hw7⟩:∃W,W=grow w6 xq:=⟨_,rfl⟩;rw [<-hw7] at hS ⊢;replace hw7:=Hd hw7;have hb07:=hb06.out.trans (hS.mono hb06.out.size);replace hb07:=Hd hb07;clear p0 p1 p2 p3 p4 p5 r0 r1 r2 r3 r4 r5 hS;go_wp2_with fail
   go_ret;exact ⟨by first | rfl | simp,hb07.out⟩
end Go.Proofs.YtagkgfniihiinaaGreatDoor
