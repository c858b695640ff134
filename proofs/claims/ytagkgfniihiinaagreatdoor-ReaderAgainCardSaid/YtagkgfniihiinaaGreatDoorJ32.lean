/- The text of any number is as a number's text is: plain. -/
import Derived.Test.YtagkgfniihiinaaGreatDoorJ66
import Derived.Test.YtagkgfniihiinaaGreatDoorJ87
import Derived.Test.YtagkgfniihiinaaGreatDoorJ77
import Derived.Test.YtagkgfniihiinaaGreatDoorJ68
import Derived.Test.YtagkgfniihiinaaGreatDoorJ49
import Derived.Test.YtagkgfniihiinaaGreatDoorReal
import Derived.Test.YtagkgfniihiinaaGreatDoorJ86
import Derived.Lib.ItoaNum
import Derived.Lib.ItoaLen
import Derived.Lib.SmallJoins
import Derived.Test.YtagkgfniihiinaaGreatDoorRight2
set_option linter.all false
namespace Go.Proofs.YtagkgfniihiinaaGreatDoor
theorem afterL_nil (l:List UInt8):A9 [] l=l:=by cases l<;>rfl
theorem nD_app:∀{A B:List UInt8},(∀c∈A,isD c=true)->(∀c l,B=c :: l->isD c=false)->nD (A++B)=A.length
 | [],[],_,_=>rfl
 | [],c :: l,_,h=>by
   unfold nD;rw [List.nil_append,List.takeWhile_cons_of_neg (by rw [h c l rfl];decide)]
 | a :: A,B,h,hB=>by
   have ih:=nD_app (A:=A) (B:=B) (fun x hx=>h x (List.mem_cons_of_mem _ hx)) hB;unfold nD at ih ⊢;rw [List.cons_append,List.takeWhile_cons_of_pos (h a (List.mem_cons_self ..)),List.length_cons,ih,List.length_cons]
theorem part_exp {X:List UInt8} {x:Int} (h:ExpAt X x):Do 101 [43,45] X=([],true):=by
 have key:∀E:List UInt8,E≠[]->(∀c∈E,isD c=true)->(E.drop (nD E),decide (0<nD E))=(([]:List UInt8),true):=fun E hE hd=>by
   rw [nD_all hd,List.drop_length,decide_eq_true (List.length_pos_iff.2 hE)]
 cases h with
 | none=>rfl
 | @bare E hE hd=>
   rw [Ds];have:A9 [43,45] E=E:=by
     cases E with
     | nil=>rfl
     | cons c l=>
       have hc:=hd c (List.mem_cons_self ..);refine C7 fun hm=>?_;rcases List.mem_cons.1 hm with rfl | hm
       · exact absurd hc (by decide)
       · rw [List.mem_singleton] at hm
         subst hm;exact absurd hc (by decide)
   rw [this];exact key E hE hd
 | @plus E hE hd=>rw [Ds,Cc (by decide)];exact key E hE hd
 | @minus E hE hd=>rw [Ds,Cc (by decide)];exact key E hE hd
theorem right_form {A F X:List UInt8} {fr:Bool} {x:Int} (neg:Bool) (hA:A≠[]) (hAd:∀c∈A,isD c=true) (hF:fr=true->F≠[]) (hFd:∀c∈F,isD c=true) (hX:ExpAt X x) :
   Bn (A3 neg++(A++(B4 fr F++X)))=true:=by
 have hXd:∀c l,X=c :: l->isD c=false:=fun c l e=>by rw [exp_head hX c l e];decide
 have ha:A9 [45] (A3 neg++(A++(B4 fr F++X)))=A++(B4 fr F++X):=by
   cases A with
   | nil=>exact absurd rfl hA
   | cons c l=>
     have hc:=hAd c (List.mem_cons_self ..);cases neg
     · refine C7 fun hm=>?_
       rw [List.mem_singleton] at hm;subst hm;exact absurd hc (by decide)
     · exact Cc (by decide)
 have hn:nD (A++(B4 fr F++X))=A.length:=by
   refine nD_app hAd ?_;intro c l e;unfold B4 at e;cases fr
   · exact hXd c l e
   · cases e;decide
 have hp:Do 46 [] (B4 fr F++X)=(X,true):=by
   cases fr
   · show Do 46 [] X=(X,true)
     cases hx:X with
     | nil=>rfl
     | cons c l=>
       have:=exp_head hX c l hx;subst this;exact Gn (by decide)
   · show Do 46 [] (46 :: (F++X))=(X,true)
     rw [Ds,afterL_nil,nD_app hFd hXd,List.drop_left,decide_eq_true (List.length_pos_iff.2 (hF rfl))]
 unfold Bn
 dsimp only
 rw [ha,hn,List.drop_left,hp]
 dsimp only
 rw [part_exp hX,decide_eq_true (List.length_pos_iff.2 hA)]
 rfl
theorem NumT.right {s:ByteArray} {neg d:Bool} {r m:Nat} {L:List UInt8} {x:Int} (h:NumT s neg r d L m x):Bn s.data.toList=true:=by
 obtain ⟨A,F,X,fr,y,hs,hA,hAd,hF,hFd,hX⟩:=h.parts;rw [hs];exact right_form neg hA hAd hF hFd hX
end Go.Proofs.YtagkgfniihiinaaGreatDoor
namespace Go.Proofs.YtagkgfniihiinaaGreatDoor
open Go.RowKit
theorem sparse_anyB {s:ByteArray} {r S:Nat} {w:World} (hs:s.size<=1000) (hR:Rng w) (h:Calls Tryz.prog 164 #[.string s] w fun e w' => e=.returned (.tuple #[.float .f64 (S+r),.int .i64 (s.size:Int),Bd r])/\Below w.heap.size w w') :
   Calls Tryz.prog 85 #[.string s,.int .i64 64] w fun e w' => ∃er,e=.returned (.tuple #[.float .f64 (S+r),er])/\((r≠9218868437227405312/\er=.nilIface)\/(r=9218868437227405312/\∃N,er=.iface 156 (.pointer (some ⟨N,0,none⟩))))/\Below w.heap.size w w' := by
 by_cases hr:r=9218868437227405312
 · have he:Bd r=.iface 155 (.int .i64 1):=if_pos hr
   rw [he] at h;obtain ⟨R,hRR⟩:∃R,R=S+r:=⟨_,rfl⟩;rw [<-hRR] at h ⊢;have h2:Calls Tryz.prog 129 #[.string s,.int .i64 64] w fun e w' => e=.returned (.tuple #[.float .f64 R,.int .i64 (s.size:Int),.iface 155 (.int .i64 1)])/\Below w.heap.size w w' := by
     replace h:=Hd h;clear hr hRR he
     go_enter Tryz.func129,Tryz.ntmps129
     go_wp2_with fail
     refine h.out.mono ?_;rintro e w' ⟨rfl,hww⟩;go_wp2;exact bodyPost_ret (v:=.tuple #[.float .f64 R,.int .i64 (s.size:Int),.iface 155 (.int .i64 1)]) (by simp [results,Tryz.results129,go_sem]) rfl ⟨rfl,hww⟩
   have h3:Calls Tryz.prog 102 #[.string s,.int .i64 64] w fun e w' => e=.returned (.tuple #[.float .f64 R,.iface 155 (.int .i64 1)])/\Below w.heap.size w w' := by
     replace h2:=Hd h2;clear h hr hRR he;have hbs:((s.size:Int) != (s.size:Int))=false:=by simp
     go_enter Tryz.func102,Tryz.ntmps102
     go_wp2_with fail
     refine h2.out.mono ?_;rintro e w' ⟨rfl,hww⟩;go_wp2
     go_ret2
     exact ⟨rfl,hww⟩
   replace hR:=Hd hR;have hr' := Hd hr;replace h3:=Hd h3;clear h h2 hr hRR he
   go_enter Tryz.func85,Tryz.ntmps85
   go_wp2_with fail
   refine h3.out.mono ?_;rintro e w1 ⟨rfl,hb1⟩;obtain ⟨te,pe,hv⟩:=(hR.out.below hb1).rng;have ht:=Tryz.strconv_toError_range ⟨#[80,97,114,115,101,70,108,111,97,116]⟩ s 0 64 (.iface te pe) w1 (by omega) hv (.inr ⟨te,pe,rfl⟩);replace hb1:=Hd hb1;replace ht:=Hd ht;clear hv;go_wp2_with fail
   refine ht.out.mono ?_;rintro e w2 ⟨N,rfl,_,_,hb⟩;go_wp2
   go_ret2
   exact ⟨_,rfl,.inr ⟨hr'.out,N,rfl⟩,hb1.out.trans (hb.mono hb1.out.size)⟩
 · have he:Bd r=.nilIface:=if_neg hr
   rw [he] at h;exact (sparse_okB h).mono fun e w' ⟨a,b⟩=>⟨_,a,.inl ⟨hr,rfl⟩,b⟩
end Go.Proofs.YtagkgfniihiinaaGreatDoor
namespace Go.Proofs.YtagkgfniihiinaaGreatDoor
def nextF (st:Nat) (c:UInt8):Option Nat:=
 if st=0/\c.toNat=45 then some 1
 else if st<=1/\isD c then some 2
 else if (st=2\/st=4\/st=7)/\isD c then some st
 else if st=2/\c.toNat=46 then some 3
 else if st=3/\isD c then some 4
 else if (st=2\/st=4)/\c.toNat=101 then some 5
 else if st=5/\(c.toNat=43\/c.toNat=45) then some 6
 else if (st=5\/st=6)/\isD c then some 7
 else none
def endF (st:Nat):Bool:=st == 2 || st == 4 || st == 7
def runF:Nat->List UInt8->Bool
 | st,[]=>endF st
 | st,c :: l=>match nextF st c with
   | none=>false
   | some t=>runF t l
theorem runF_cons {st:Nat} {c:UInt8} {l:List UInt8}:runF st (c :: l)=match nextF st c with | none=>false | some t=>runF t l:=by rw [runF]
theorem nD_yes {c:UInt8} {l:List UInt8} (h:isD c=true):nD (c :: l)=nD l+1:=by unfold nD;rw [List.takeWhile_cons,if_pos h];rfl
theorem nD_no {c:UInt8} {l:List UInt8} (h:isD c=false):nD (c :: l)=0:=by unfold nD;rw [List.takeWhile_cons,if_neg (by rw [h];decide)];rfl
def tailF (l:List UInt8):Bool:=(l.drop (nD l)).isEmpty
theorem tailF_yes {c:UInt8} {l:List UInt8} (h:isD c=true):tailF (c :: l)=tailF l:=by unfold tailF;rw [nD_yes h,List.drop_succ_cons]
theorem tailF_no {c:UInt8} {l:List UInt8} (h:isD c=false):tailF (c :: l)=false:=by unfold tailF;rw [nD_no h];rfl
theorem run7:∀l:List UInt8,runF 7 l=tailF l
 | []=>rfl
 | c :: l=>by
   rw [runF_cons];cases h:isD c
   · rw [tailF_no h];simp [nextF,h]
   · rw [tailF_yes h,<-run7 l];simp [nextF,h]
theorem run6 (l:List UInt8):runF 6 l=(decide (0<nD l) && tailF l):=by
 cases l with
 | nil=>rfl
 | cons c l=>
   rw [runF_cons];cases h:isD c
   · rw [nD_no h];simp [nextF,h]
   · rw [nD_yes h,tailF_yes h,<-run7 l];simp [nextF,h]
theorem run5 (l:List UInt8):runF 5 l=(decide (0<nD (A9 [43,45] l)) && tailF (A9 [43,45] l)):=by
 cases l with
 | nil=>rfl
 | cons c l=>
   rw [runF_cons];by_cases hs:c.toNat=43\/c.toNat=45
   · have hm:c∈([43,45]:List UInt8):=by
       rcases hs with hs | hs
       · rw [UInt8.toNat_inj.1 (show c.toNat=(43:UInt8).toNat from hs)];decide
       · rw [UInt8.toNat_inj.1 (show c.toNat=(45:UInt8).toNat from hs)];decide
     rw [Cc hm,<-run6];simp [nextF,hs]
   · have hm:¬c∈([43,45]:List UInt8):=by
       intro hm;rcases List.mem_cons.1 hm with h | h
       · exact hs (.inl (by rw [h];rfl))
       · rw [List.mem_singleton] at h
         exact hs (.inr (by rw [h];rfl))
     rw [C7 hm,<-run6,runF_cons];simp [nextF,hs]
def expO (l:List UInt8):Bool:=(Do 101 [43,45] l).2 && (Do 101 [43,45] l).1.isEmpty
theorem expO_e (l:List UInt8):expO (101 :: l)=runF 5 l:=by unfold expO;rw [Ds,run5];rfl
theorem expO_no {c:UInt8} {l:List UInt8} (h:c.toNat≠101):expO (c :: l)=false:=by
 unfold expO;rw [Gn (fun e=>h (by rw [e];rfl))];rfl
def fracO (l:List UInt8):Bool:=(Do 46 [] l).2 && expO (Do 46 [] l).1
theorem nD_split (l:List UInt8):l=l.take (nD l)++l.drop (nD l)/\(l.take (nD l)).length=nD l/\(∀c∈l.take (nD l),isD c=true):=by
 refine ⟨(List.take_append_drop _ _).symm,by rw [List.length_take];have:=nD_le l;omega,fun c hc=>?_⟩;obtain ⟨i,hi,e⟩:=List.getElem_of_mem hc;rw [List.length_take] at hi;rw [List.getElem_take] at e;exact nD_at l i c (by omega) (by rw [<-e];exact List.getElem?_eq_getElem _)
theorem tail_dig {l:List UInt8} (h:decide (0<nD l)=true) (ht:tailF l=true):l≠[]/\∀c∈l,isD c=true:=by
 obtain ⟨h1,h2,h3⟩:=nD_split l;unfold tailF at ht;have h4:l.drop (nD l)=[]:=List.isEmpty_iff.1 ht;rw [h4,List.append_nil] at h1;have h0:=of_decide_eq_true h;refine ⟨fun e=>?_,fun c hc=>h3 c (by rw [<-h1];exact hc)⟩;rw [e] at h0;exact absurd h0 (by decide)
theorem exp_parts {l:List UInt8} (h:expO l=true):∃x,ExpAt l x:=by
 cases l with
 | nil=>exact ⟨_,.none⟩
 | cons c l=>
   by_cases he:c.toNat=101
   · have:c=101:=UInt8.toNat_inj.1 he
     subst this;rw [expO_e,run5,Bool.and_eq_true] at h;cases l with
     | nil=>exact absurd h.1 (by decide)
     | cons a r=>
       by_cases h1:a=43
       · subst h1
         rw [Cc (by decide)] at h;obtain ⟨a1,a2⟩:=tail_dig h.1 h.2;exact ⟨_,.plus a1 a2⟩
       · by_cases h2:a=45
         · subst h2
           rw [Cc (by decide)] at h;obtain ⟨a1,a2⟩:=tail_dig h.1 h.2;exact ⟨_,.minus a1 a2⟩
         · rw [C7 (by simp [h1,h2])] at h
           obtain ⟨a1,a2⟩:=tail_dig h.1 h.2;exact ⟨_,.bare a1 a2⟩
   · rw [expO_no he] at h;cases h
theorem right_parts {l:List UInt8} (h:Bn l=true):∃neg A F X fr x,l=A3 neg++(A++(B4 fr F++X))/\A≠[]/\(∀c∈A,isD c=true)/\(fr=false->F=[])/\(∀c∈F,isD c=true)/\ExpAt X x:=by
 have key:Bn l=(decide (0<nD (A9 [45] l)) && fracO ((A9 [45] l).drop (nD (A9 [45] l)))):=by
   unfold Bn fracO expO;dsimp only;simp only [Bool.and_assoc]
 rw [key,Bool.and_eq_true] at h;have hneg:∃neg,l=A3 neg++A9 [45] l:=by
   cases l with
   | nil=>exact ⟨false,rfl⟩
   | cons c l=>
     by_cases e:c=45
     · subst e;exact ⟨true,by rw [Cc (by decide)];rfl⟩
     · exact ⟨false,by rw [C7 (by simp [e])];rfl⟩
 obtain ⟨neg,hneg⟩:=hneg;generalize A9 [45] l=a at *;obtain ⟨h1,h2,h3⟩:=nD_split a;have h0:=of_decide_eq_true h.1;have hf:=h.2;clear key h;generalize a.take (nD a)=A at h1 h2 h3;generalize a.drop (nD a)=R at h1 hf;have hA:A≠[]:=fun e=>by rw [e] at h2;simp at h2;omega
 unfold fracO at hf;rw [Bool.and_eq_true] at hf;cases R with
 | nil=>exact ⟨neg,A,[],[],false,0,by rw [hneg,h1];rfl,hA,h3,fun _=>rfl,fun _ hc=>(by cases hc),.none⟩
 | cons c r=>
   by_cases e:c=46
   · subst e
     rw [Ds,afterL_nil] at hf;obtain ⟨g1,g2,g3⟩:=nD_split r;obtain ⟨x,hX⟩:=exp_parts hf.2;refine ⟨neg,A,r.take (nD r),r.drop (nD r),true,x,?_,hA,h3,fun h=>(by cases h),g3,hX⟩;rw [hneg,h1];show _=A3 neg++(_++(46 :: r.take (nD r)++r.drop (nD r)));rw [List.cons_append,<-g1]
   · rw [Gn e] at hf
     obtain ⟨x,hX⟩:=exp_parts hf.2;exact ⟨neg,A,[],c :: r,false,x,by rw [hneg,h1];rfl,hA,h3,fun _=>rfl,fun _ hc=>(by cases hc),hX⟩
theorem right_txt {s:ByteArray} (h:Bn s.data.toList=true) (hz:s.size<=1000):∃neg d L m x,FTxt s neg d L m x/\∃c l,s.data.toList=(if neg then [45] else [])++c :: l/\isD c=true:=by
 obtain ⟨neg,A,F,X,fr,x,hs,hA,hAd,hF,hFd,hX⟩:=right_parts h;exact ⟨neg,fr,_,_,x,txt_form hs hz hA hAd hF hFd hX⟩
end Go.Proofs.YtagkgfniihiinaaGreatDoor
