/- Numbers of so many digits: what internal/strconv.fixedWidthFloat computes; the document's search for the fewest digits (no program in sight). -/
import Derived.Test.YtagkgfniihiinaaGreatDoorJ69
import Derived.Test.YtagkgfniihiinaaGreatDoorTxtQ
import Derived.Test.YtagkgfniihiinaaGreatDoorJ84
import Derived.Test.YtagkgfniihiinaaGreatDoorRight2
set_option linter.all false
namespace Go.Proofs.YtagkgfniihiinaaGreatDoor
def tK:Nat:=400
theorem tK_is:tK=400:=rfl
def tT (q:Int):Nat:=10 ^ (q+tK).toNat * 2 ^ hp
theorem tT_add {q:Int} (h:-400<=q) (a:Nat):tT (q+a)=10 ^ a * tT q:=by
 have hk:=tK_is;unfold tT;rw [show (q+a+tK).toNat=a+(q+tK).toNat by omega,Nat.pow_add,Nat.mul_assoc]
theorem afterL_nil (l:List UInt8):A9 [] l=l:=by cases l<;>rfl
theorem Dy {p q:Int} (p0:-400<=p) (q0:-400<=q):(∃a:Nat,tT p=10 ^ a * tT q/\p - q=(a:Int))\/∃a:Nat,1<=a/\tT q=10 ^ a * tT p/\q - p=(a:Int):=by
 rcases Int.lt_or_le p q with h | h
 · obtain ⟨a,rfl⟩:∃a:Nat,q=p+a:=⟨(q - p).toNat,by omega⟩
   exact .inr ⟨a,by omega,tT_add p0 a,by omega⟩
 · obtain ⟨a,rfl⟩:∃a:Nat,p=q+a:=⟨(p - q).toNat,by omega⟩
   exact .inl ⟨a,tT_add q0 a,by omega⟩
def Bu (st:Nat) (c:UInt8):Option Nat:=
 if st=0/\c.toNat=45 then some 1
 else if st<=1/\isD c then some 2
 else if (st=2\/st=4\/st=7)/\isD c then some st
 else if st=2/\c.toNat=46 then some 3
 else if st=3/\isD c then some 4
 else if (st=2\/st=4)/\c.toNat=101 then some 5
 else if st=5/\(c.toNat=43\/c.toNat=45) then some 6
 else if (st=5\/st=6)/\isD c then some 7
 else none
def endF (st:Nat):Bool:=st == 2 || st == 4 || st == 7
def runF:Nat->List UInt8->Bool
 | st,[]=>endF st
 | st,c :: l=>match Bu st c with
   | none=>false
   | some t=>runF t l
theorem Bx {st:Nat} {c:UInt8} {l:List UInt8}:runF st (c :: l)=match Bu st c with | none=>false | some t=>runF t l:=by rw [runF]
theorem nD_yes {c:UInt8} {l:List UInt8} (h:isD c=true):nD (c :: l)=nD l+1:=by unfold nD;rw [List.takeWhile_cons,if_pos h];rfl
theorem nD_no {c:UInt8} {l:List UInt8} (h:isD c=false):nD (c :: l)=0:=by unfold nD;rw [List.takeWhile_cons,if_neg (by rw [h];decide)];rfl
def Fw (l:List UInt8):Bool:=(l.drop (nD l)).isEmpty
theorem tailF_yes {c:UInt8} {l:List UInt8} (h:isD c=true):Fw (c :: l)=Fw l:=by unfold Fw;rw [nD_yes h,List.drop_succ_cons]
theorem tailF_no {c:UInt8} {l:List UInt8} (h:isD c=false):Fw (c :: l)=false:=by unfold Fw;rw [nD_no h];rfl
theorem run7:∀l:List UInt8,runF 7 l=Fw l
 | []=>rfl
 | c :: l=>by
   rw [Bx];cases h:isD c
   · rw [tailF_no h];simp [Bu,h]
   · rw [tailF_yes h,<-run7 l];simp [Bu,h]
theorem run6 (l:List UInt8):runF 6 l=(decide (0<nD l) && Fw l):=by
 cases l with
 | nil=>rfl
 | cons c l=>
   rw [Bx];cases h:isD c
   · rw [nD_no h];simp [Bu,h]
   · rw [nD_yes h,tailF_yes h,<-run7 l];simp [Bu,h]
theorem run5 (l:List UInt8):runF 5 l=(decide (0<nD (A9 [43,45] l)) && Fw (A9 [43,45] l)):=by
 cases l with
 | nil=>rfl
 | cons c l=>
   rw [Bx];by_cases hs:c.toNat=43\/c.toNat=45
   · have hm:c∈([43,45]:List UInt8):=by
       rcases hs with hs | hs
       · rw [UInt8.toNat_inj.1 (show c.toNat=(43:UInt8).toNat from hs)];decide
       · rw [UInt8.toNat_inj.1 (show c.toNat=(45:UInt8).toNat from hs)];decide
     rw [Cu hm,<-run6];simp [Bu,hs]
   · have hm:¬c∈([43,45]:List UInt8):=by
       intro hm;rcases List.mem_cons.1 hm with h | h
       · exact hs (.inl (by rw [h];rfl))
       · rw [List.mem_singleton] at h
         exact hs (.inr (by rw [h];rfl))
     rw [Db hm,<-run6,Bx];simp [Bu,hs]
def expO (l:List UInt8):Bool:=(D7 101 [43,45] l).2 && (D7 101 [43,45] l).1.isEmpty
theorem expO_e (l:List UInt8):expO (101 :: l)=runF 5 l:=by unfold expO;rw [Fo,run5];rfl
theorem expO_no {c:UInt8} {l:List UInt8} (h:c.toNat≠101):expO (c :: l)=false:=by
 unfold expO;rw [Ft (fun e=>h (by rw [e];rfl))];rfl
theorem run4:∀l:List UInt8,runF 4 l=expO (l.drop (nD l))
 | []=>rfl
 | c :: l=>by
   rw [Bx];cases h:isD c
   · rw [nD_no h,List.drop_zero]
     by_cases he:c.toNat=101
     · have:c=101:=UInt8.toNat_inj.1 he
       subst this;rw [expO_e];simp [Bu,h]
     · rw [expO_no he];simp [Bu,h,he]
   · rw [nD_yes h,List.drop_succ_cons,<-run4 l];simp [Bu,h]
theorem run3 (l:List UInt8):runF 3 l=(decide (0<nD l) && expO (l.drop (nD l))):=by
 cases l with
 | nil=>rfl
 | cons c l=>
   rw [Bx];cases h:isD c
   · rw [nD_no h];simp [Bu,h]
   · rw [nD_yes h,List.drop_succ_cons,<-run4 l];simp [Bu,h]
def fracO (l:List UInt8):Bool:=(D7 46 [] l).2 && expO (D7 46 [] l).1
theorem run2:∀l:List UInt8,runF 2 l=fracO (l.drop (nD l))
 | []=>rfl
 | c :: l=>by
   rw [Bx];cases h:isD c
   · rw [nD_no h,List.drop_zero]
     by_cases h46:c.toNat=46
     · have:c=46:=UInt8.toNat_inj.1 h46
       subst this;unfold fracO;rw [Fo,afterL_nil,<-run3];simp [Bu,h]
     · unfold fracO
       rw [Ft (fun e=>h46 (by rw [e];rfl)),Bool.true_and];by_cases he:c.toNat=101
       · have:c=101:=UInt8.toNat_inj.1 he
         subst this;rw [expO_e];simp [Bu,h]
       · rw [expO_no he];simp [Bu,h,h46,he]
   · rw [nD_yes h,List.drop_succ_cons,<-run2 l];simp [Bu,h]
theorem run1 (l:List UInt8):runF 1 l=(decide (0<nD l) && fracO (l.drop (nD l))):=by
 cases l with
 | nil=>rfl
 | cons c l=>
   rw [Bx];cases h:isD c
   · rw [nD_no h];simp [Bu,h]
   · rw [nD_yes h,List.drop_succ_cons,<-run2 l];simp [Bu,h]
theorem form_right (l:List UInt8):runF 0 l=Bh l:=by
 have key:Bh l=(decide (0<nD (A9 [45] l)) && fracO ((A9 [45] l).drop (nD (A9 [45] l)))):=by
   unfold Bh fracO expO;dsimp only;simp only [Bool.and_assoc]
 rw [key,<-run1];cases l with
 | nil=>rfl
 | cons c l=>
   rw [Bx];by_cases h:c.toNat=45
   · have:c=45:=UInt8.toNat_inj.1 h
     subst this;rw [Cu (by decide)];simp [Bu]
   · have hm:¬c∈([45]:List UInt8):=by
       intro hm;rw [List.mem_singleton] at hm;exact h (by rw [hm];rfl)
     rw [Db hm,Bx];simp [Bu,h]
theorem nD_split (l:List UInt8):l=l.take (nD l)++l.drop (nD l)/\(l.take (nD l)).length=nD l/\(∀c∈l.take (nD l),isD c=true):=by
 refine ⟨(List.take_append_drop _ _).symm,by rw [List.length_take];have:=nD_le l;omega,fun c hc=>?_⟩;obtain ⟨i,hi,e⟩:=List.getElem_of_mem hc;rw [List.length_take] at hi;rw [List.getElem_take] at e;exact nD_at l i c (by omega) (by rw [<-e];exact List.getElem?_eq_getElem _)
theorem tail_dig {l:List UInt8} (h:decide (0<nD l)=true) (ht:Fw l=true):l≠[]/\∀c∈l,isD c=true:=by
 obtain ⟨h1,h2,h3⟩:=nD_split l;unfold Fw at ht;have h4:l.drop (nD l)=[]:=List.isEmpty_iff.1 ht;rw [h4,List.append_nil] at h1;have h0:=of_decide_eq_true h;refine ⟨fun e=>?_,fun c hc=>h3 c (by rw [<-h1];exact hc)⟩;rw [e] at h0;exact absurd h0 (by decide)
theorem exp_parts {l:List UInt8} (h:expO l=true):∃x,ExpAt l x:=by
 cases l with
 | nil=>exact ⟨_,.none⟩
 | cons c l=>
   by_cases he:c.toNat=101
   · have:c=101:=UInt8.toNat_inj.1 he
     subst this;rw [expO_e,run5,Bool.and_eq_true] at h;cases l with
     | nil=>exact absurd h.1 (by decide)
     | cons a r=>
       by_cases h1:a=43
       · subst h1
         rw [Cu (by decide)] at h;obtain ⟨a1,a2⟩:=tail_dig h.1 h.2;exact ⟨_,.plus a1 a2⟩
       · by_cases h2:a=45
         · subst h2
           rw [Cu (by decide)] at h;obtain ⟨a1,a2⟩:=tail_dig h.1 h.2;exact ⟨_,.minus a1 a2⟩
         · rw [Db (by simp [h1,h2])] at h
           obtain ⟨a1,a2⟩:=tail_dig h.1 h.2;exact ⟨_,.bare a1 a2⟩
   · rw [expO_no he] at h;cases h
theorem right_parts {l:List UInt8} (h:Bh l=true):∃neg A F X fr x,l=signL neg++(A++(fracL fr F++X))/\A≠[]/\(∀c∈A,isD c=true)/\(fr=false->F=[])/\(∀c∈F,isD c=true)/\ExpAt X x:=by
 have key:Bh l=(decide (0<nD (A9 [45] l)) && fracO ((A9 [45] l).drop (nD (A9 [45] l)))):=by
   unfold Bh fracO expO;dsimp only;simp only [Bool.and_assoc]
 rw [key,Bool.and_eq_true] at h;have hneg:∃neg,l=signL neg++A9 [45] l:=by
   cases l with
   | nil=>exact ⟨false,rfl⟩
   | cons c l=>
     by_cases e:c=45
     · subst e;exact ⟨true,by rw [Cu (by decide)];rfl⟩
     · exact ⟨false,by rw [Db (by simp [e])];rfl⟩
 obtain ⟨neg,hneg⟩:=hneg;generalize A9 [45] l=a at *;obtain ⟨h1,h2,h3⟩:=nD_split a;have h0:=of_decide_eq_true h.1;have hf:=h.2;clear key h;generalize a.take (nD a)=A at h1 h2 h3;generalize a.drop (nD a)=R at h1 hf;have hA:A≠[]:=fun e=>by rw [e] at h2;simp at h2;omega
 unfold fracO at hf;rw [Bool.and_eq_true] at hf;cases R with
 | nil=>exact ⟨neg,A,[],[],false,0,by rw [hneg,h1];rfl,hA,h3,fun _=>rfl,fun _ hc=>(by cases hc),.none⟩
 | cons c r=>
   by_cases e:c=46
   · subst e
     rw [Fo,afterL_nil] at hf;obtain ⟨g1,g2,g3⟩:=nD_split r;obtain ⟨x,hX⟩:=exp_parts hf.2;refine ⟨neg,A,r.take (nD r),r.drop (nD r),true,x,?_,hA,h3,fun h=>(by cases h),g3,hX⟩;rw [hneg,h1];show _=signL neg++(_++(46 :: r.take (nD r)++r.drop (nD r)));rw [List.cons_append,<-g1]
   · rw [Ft e] at hf
     obtain ⟨x,hX⟩:=exp_parts hf.2;exact ⟨neg,A,[],c :: r,false,x,by rw [hneg,h1];rfl,hA,h3,fun _=>rfl,fun _ hc=>(by cases hc),hX⟩
theorem right_txt {s:ByteArray} (h:Bh s.data.toList=true) (hz:s.size<=1000):∃neg d L m x,FTxt s neg d L m x/\∃c l,s.data.toList=(if neg then [45] else [])++c :: l/\isD c=true:=by
 obtain ⟨neg,A,F,X,fr,x,hs,hA,hAd,hF,hFd,hX⟩:=right_parts h;exact ⟨neg,fr,_,_,x,txt_form hs hz hA hAd hF hFd hX⟩
end Go.Proofs.YtagkgfniihiinaaGreatDoor
