/- The reader at the bytes of a value: that value; at each beginning of them: nothing yet (plain). -/
import Derived.Test.YtagkgfniihiinaaGreatDoorJ55
import Derived.Test.YtagkgfniihiinaaGreatDoorTxtQ
import Derived.Test.YtagkgfniihiinaaGreatDoorJ51
import Derived.Test.YtagkgfniihiinaaGreatDoorJ45
import Derived.Lib.ItoaNum
import Derived.Lib.ItoaLen
import Derived.Lib.IndexLaws
set_option linter.all false
namespace Go.Proofs.YtagkgfniihiinaaGreatDoor
theorem E8:∀{t:List UInt8} {c:UInt8} (z:List UInt8),c ∉ t->Lib.indexByte (t++c :: z) c=(t.length:Int)
 | [],c,z,_=>by
   show Lib.indexByte (c :: z) c=0;unfold Lib.indexByte;rw [if_pos (by simp)]
 | x :: t,c,z,h=>by
   have hx:¬(x == c)=true:=fun e=>h (by rw [beq_iff_eq.1 e];exact List.mem_cons_self ..);have ih:=E8 (t:=t) z (fun hm=>h (List.mem_cons_of_mem _ hm));rw [List.cons_append];unfold Lib.indexByte;rw [if_neg hx,ih,if_neg (by simp),List.length_cons];omega
theorem index_no:∀{t:List UInt8} {c:UInt8},c ∉ t->Lib.indexByte t c=-1
 | [],_,_=>rfl
 | x :: t,c,h=>by
   have hx:¬(x == c)=true:=fun e=>h (by rw [beq_iff_eq.1 e];exact List.mem_cons_self ..);unfold Lib.indexByte;rw [if_neg hx,index_no (fun hm=>h (List.mem_cons_of_mem _ hm)),if_pos (by rfl)]
theorem lineS_got {t z:List UInt8} (h13:(13:UInt8) ∉ t) (h10:(10:UInt8) ∉ t) (hz:t.length<=4198):Aw (t++13 :: 10 :: z)=.got (t,t.length+2):=by
 obtain ⟨z', hR⟩:∃z', (t++13 :: 10 :: z).take 4200=t++13 :: 10 :: z' := by
   refine ⟨z.take (4200 - t.length - 2),?_⟩;rw [List.take_append,List.take_of_length_le (by omega)];congr 1;obtain ⟨k,hk⟩:∃k,4200 - t.length=k+2:=⟨4200 - t.length - 2,by omega⟩;rw [hk,List.take_succ_cons,List.take_succ_cons,show k+2 - 2=k by omega]
 have e1:Lib.indexByte (t++13 :: 10 :: z') 13=(t.length:Int):=E8 _ h13;have e2:Lib.indexByte (t++13 :: 10 :: z') 10=((t.length+1:Nat):Int):=by
   have:=E8 (t:=t++[13]) (c:=10) z' (fun hm=>by
     rcases List.mem_append.1 hm with hm | hm
     · exact h10 hm
     · rw [List.mem_singleton] at hm;exact absurd hm (by decide))
   rw [List.append_assoc,List.length_append] at this;exact this
 unfold Aw;rw [hR];dsimp only;rw [e1,e2,if_neg (by omega),if_neg (by omega)];congr 2
 · rw [show (((t.length+1:Nat):Int) - 1).toNat=t.length by omega,List.take_left]
theorem getD_app {p q:List UInt8} {k:Nat} (h:k<p.length):p.getD k 0=(p++q).getD k 0:=by
 simp only [List.getD];rw [List.getElem?_append_left h]
theorem scan_head_stop {rp:Rp} {lv many:Nat} {L:List UInt8} {q:Nat} (h:A1 rp L=.stop q) (hn:needH rp L):At rp lv many L=.stop q/\C6 rp lv many L:=by
 cases lv with
 | zero=>exact ⟨by rw [At,h],hn⟩
 | succ lv=>exact ⟨by rw [At,h],hn,fun kd n u e=>by rw [h] at e;cases e⟩
theorem scan_nil {rp:Rp} {lv many:Nat}:At rp lv many []=.stop 0/\C6 rp lv many []:=
 scan_head_stop rfl (fun c L t u e=>by cases e)
end Go.Proofs.YtagkgfniihiinaaGreatDoor
namespace Go.Proofs.YtagkgfniihiinaaGreatDoor
open Go.RowKit
def Ee:List UInt8:=[43,45,58,36,42,95,44,35,40,33,61,37,126,62]
theorem kind_at:∀(j:Fin 14) (c:UInt8),Ee[j.val]?=some c->Ac c=j.val+1:=by
 intro j c h;have h1:∀j:Fin 14,∀c:UInt8,Ee[j.val]?=some c->c=Ee.getD j.val 0:=fun j c h=>by rw [List.getD_eq_getElem?_getD,h];rfl
 rw [h1 j c h];revert j;have h2:∀j:Fin 14,Ac (Ee.getD j.val 0)=j.val+1:=by decide
 intro j _;exact h2 j
theorem kind_none {c:UInt8} (h:∀j,j<14->Ee[j]?≠some c):Ac c=0:=by
 unfold Ac;have k:∀j,j<14->c≠Ee.getD j 0:=fun j hj e=>h j hj (by rw [List.getD_eq_getElem?_getD] at e;rw [e];have:j<Ee.length:=hj;rw [List.getElem?_eq_getElem this];rfl);rw [if_neg (show c≠43 from k 0 (by decide)),if_neg (show c≠45 from k 1 (by decide)),if_neg (show c≠58 from k 2 (by decide)),if_neg (show c≠36 from k 3 (by decide)),if_neg (show c≠42 from k 4 (by decide)),if_neg (show c≠95 from k 5 (by decide)),if_neg (show c≠44 from k 6 (by decide)),if_neg (show c≠35 from k 7 (by decide)),if_neg (show c≠40 from k 8 (by decide)),if_neg (show c≠33 from k 9 (by decide)),if_neg (show c≠61 from k 10 (by decide)),if_neg (show c≠37 from k 11 (by decide)),if_neg (show c≠126 from k 12 (by decide)),if_neg (show c≠62 from k 13 (by decide))]
set_option maxRecDepth 100000 in
set_option maxHeartbeats 3200000 in
theorem C1 (c:UInt8) (w:World):Calls Tryz.prog 72 #[.int .u8 (c.toNat:Int)] w fun e w' => e=.returned (.int .i64 (Ac c:Int))/\w' = w:=by
 obtain ⟨K,hK⟩:∃K,K=Ac c:=⟨_,rfl⟩;rw [<-hK];obtain ⟨M,hM⟩:∃M:ByteArray,M=⟨#[43,45,58,36,42,95,44,35,40,33,61,37,126,62]⟩:=⟨_,rfl⟩;have hMz:M.size=14:=by rw [hM];rfl
 have hMl:∀(i:Nat) (h:i<M.size),Ee[i]?=some (M[i]'h):=fun i h=>by
   have h1:=Lib.data_getElem? M i h;rw [<-h1,hM];rfl
 replace hK:=Hd hK;replace hMl:=Hd hMl
 go_enter Tryz.func72,Tryz.ntmps72
 go_wp2_with fail
 rw [<-hM];have hMzi:(M.size:Int)=14:=by omega
 clear hM
 go_loop [4] (fun s4=>∃i:Nat,i<=14/\s4=.int .i64 (i:Int)/\∀j,j<i->Ee[j]?≠some c) (fun s4=>14 - (intOf s4).toNat)
 case atStart=>exact ⟨0,by omega,rfl,fun j h=>by omega⟩
 case round=>
   obtain ⟨i,hi,rfl,hl⟩:=hrel;by_cases hlt:i<M.size
   · have hlti:(i:Int)<(M.size:Int):=by omega
     obtain ⟨d,hdd⟩:∃d,M[i]'hlt=d:=⟨_,rfl⟩;have hml:=hMl.out i hlt;rw [hdd] at hml;by_cases he:d=c
     · have hKi:K=i+1:=by
         rw [hK.out];exact kind_at ⟨i,by omega⟩ c (by rw [<-he];exact hml)
       have hee:((d.toNat:Int) == (c.toNat:Int))=true:=by rw [he,beq_iff_eq]
       replace hKi:=Hd hKi;clear hl hml he;go_wp2;go_ret;exact ⟨by rw [hKi.out];rfl,rfl⟩
     · have hee:((d.toNat:Int) == (c.toNat:Int))=false:=by
         rw [beq_eq_false_iff_ne];intro e;exact he (UInt8.toNat_inj.1 (by omega))
       have hn:∀j,j<i+1->Ee[j]?≠some c:=fun j hj=>by
         rcases Nat.lt_succ_iff_lt_or_eq.1 hj with h | h
         · exact hl j h
         · rw [h,hml];exact fun e=>he (Option.some.inj e)
       replace hn:=Hd hn;clear hl hml he;go_wp2_with fail
       go_round
       case rel=>exact ⟨i+1,by omega,by first | rfl | (congr 1),hn.out⟩
       case measure=>simp [intOf];omega
   · have hlti:¬(i:Int)<(M.size:Int):=by omega
     have hK0:K=0:=by
       rw [hK.out];exact kind_none fun j hj=>hl j (by omega)
     replace hK0:=Hd hK0;clear hl;go_wp2;go_ret;exact ⟨by rw [hK0.out];rfl,rfl⟩
end Go.Proofs.YtagkgfniihiinaaGreatDoor
