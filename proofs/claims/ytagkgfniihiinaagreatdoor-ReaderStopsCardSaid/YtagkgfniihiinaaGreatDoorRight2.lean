/- real.right: whether a text is as a number is. -/
import Derived.Test.YtagkgfniihiinaaGreatDoorReadF
import Derived.Lib.SmallJoins
set_option linter.all false
set_option maxHeartbeats 1600000
set_option maxRecDepth 100000
namespace Go.Proofs.YtagkgfniihiinaaGreatDoor
open Go.RowKit
def nD (l:List UInt8):Nat:=(l.takeWhile isD).length
theorem nD_le (l:List UInt8):nD l<=l.length:=(List.takeWhile_sublist _).length_le
theorem nD_at:∀(l:List UInt8) (k:Nat) (c:UInt8),k<nD l->l[k]?=some c->isD c=true
 | [],k,c,h,_=>by simp [nD] at h
 | a :: l,k,c,h,hc=>by
  unfold nD at h;rw [List.takeWhile_cons] at h;split at h
  ·rename_i ha
   cases k with
   | zero=>simp at hc;rw [<-hc];exact ha
   | succ k=>exact nD_at l k c (by simpa [nD] using h) (by simpa using hc)
  ·simp at h
theorem nD_end:∀(l:List UInt8) (c:UInt8),l[nD l]?=some c->isD c=false
 | [],c,h=>by simp at h
 | a :: l,c,h=>by
  unfold nD at h;rw [List.takeWhile_cons] at h;split at h
  ·exact nD_end l c (by simpa [nD] using h)
  ·rename_i ha
   simp at h;rw [<-h];simpa using ha
theorem digits_any {s:ByteArray} (hs:s.size<=1000) (w:World):Calls Tryz.prog 134 #[.string s] w fun e w' => e=.returned (.int .i64 (nD s.data.toList:Int))/\w' = w:=by
 obtain ⟨n,hn⟩:∃n,n=nD s.data.toList:=⟨_,rfl⟩;have hns:n<=s.size:=by rw [Ai,hn];exact nD_le _
 have hsz:(s.size:Int)<=1000:=by omega
 rw [<-hn];replace hn:=Hd hn
 go_enter Tryz.func134,Tryz.ntmps134
 go_wp2_with fail
 go_loop [3] (fun i=>∃k:Nat,k<=n/\i=.int .i64 k) (fun i=>n - (intOf i).toNat)
 case atStart=>exact ⟨0,Nat.zero_le _,rfl⟩
 case round=>
  obtain ⟨k,hk,rfl⟩:=hrel;by_cases hlt:k<s.size
  ·obtain ⟨c,hc⟩:∃c,s[k]'hlt=c:=⟨_,rfl⟩
   have a:s.data.toList[k]?=some c:=by rw [Lib.data_getElem? s k hlt,hc]
   have f:(k:Int)<(s.size:Int):=by omega
   by_cases hkn:k<n
   ·have hd:=nD_at _ k c (by rw [<-hn.out];exact hkn) a
    have b:48<=c.toNat/\c.toNat<=57:=by simp [isD] at hd;exact hd
    have r1:(48:Int)<=(c.toNat:Int):=by omega
    have r2:(c.toNat:Int)<=57:=by omega
    replace a:=Hd a;clear hd;go_wp2_with fail
    go_round
    case rel=>exact ⟨k+1,by omega,by go_num⟩
    case measure=>simp [intOf];omega
   ·have d:k=n:=by omega
    have hd:=nD_end _ c (by rw [<-hn.out,<-d];exact a);have b:¬(48<=c.toNat/\c.toNat<=57):=by simp [isD] at hd;omega
    have e1:((k:Nat):Int)=(n:Int):=by omega
    replace a:=Hd a;replace e1:=Hd e1;replace d:=Hd d;clear hd;by_cases h1:48<=c.toNat
    ·have r1:(48:Int)<=(c.toNat:Int):=by omega
     have r2:¬(c.toNat:Int)<=57:=by omega
     clear b h1;go_wp2;go_ret;exact ⟨by rw [<-e1.out];rfl,rfl⟩
    ·have r1:¬(48:Int)<=(c.toNat:Int):=by omega
     clear b h1;go_wp2;go_ret;exact ⟨by rw [<-e1.out];rfl,rfl⟩
  ·have f:¬(k:Int)<(s.size:Int):=by omega
   have e1:((k:Nat):Int)=(n:Int):=by omega
   replace e1:=Hd e1;go_wp2;go_ret;exact ⟨by rw [<-e1.out];rfl,rfl⟩
def Ba (S l:List UInt8):List UInt8:=match l with | []=>[] | c :: r=>if c∈S then r else c :: r
theorem Ca {S:List UInt8} {c:UInt8} {r:List UInt8} (h:c∈S):Ba S (c :: r)=r:=if_pos h
theorem Ct {S:List UInt8} {c:UInt8} {r:List UInt8} (h:¬c∈S):Ba S (c :: r)=c :: r:=if_neg h
theorem afterL_len (S l:List UInt8):(Ba S l).length<=l.length:=by
 cases l with
 | nil=>exact Nat.le_refl _
 | cons c r=>
  by_cases h:c∈S
  ·rw [Ca h];simp
  ·rw [Ct h];exact Nat.le_refl _
theorem after_any {s S:ByteArray} (hs:s.size<=1000) (hS:S.size<=2) (w:World):Calls Tryz.prog 133 #[.string s,.string S] w fun e w' => ∃t:ByteArray,e=.returned (.string t)/\t.data.toList=Ba S.data.toList s.data.toList/\Below w.heap.size w w' := by
 have u:=Lib.run_convert_string_bytes (P:=Tryz.prog) w 9 27 5 S Tryz.underlying9 Tryz.underlying27 Tryz.underlying5;obtain ⟨w1,hw1⟩:∃w1,w1=Lib.bytesWorld w 5 S:=⟨_,rfl⟩;rw [<-hw1] at u;have hb:Below w.heap.size w w1:=by rw [hw1];exact Go.Joins.below_bytesWorld _ _ _ _ (Nat.le_refl _)
 have l:∀j (h:j<S.size),w1.cell? ⟨w.heap.size,j,none⟩=some (.int .u8 ((S[j]'h).toNat:Int)):=fun j h=>by
  rw [hw1,Lib.bytesWorld_cell w 5 S j h,List.getD_eq_getElem?_getD,Lib.data_getElem? S j h];rfl
 have hsz:(s.size:Int)<=1000:=by omega
 replace hw1:=Hd hw1;replace hb:=Hd hb;replace l:=Hd l
 go_enter Tryz.func133,Tryz.ntmps133
 go_wp2_with fail
 go_loop [6,10] (fun _ i=>∃k:Nat,k<=S.size/\i=.int .i64 k/\∀j (h:j<S.size),j<k->∀c,s.data.toList[0]?=some c->c≠S[j]'h) (fun _ i=>S.size - (intOf i).toNat)
 case atStart=>exact ⟨0,Nat.zero_le _,rfl,fun j _ h=>absurd h (Nat.not_lt_zero _)⟩
 case round=>
  obtain ⟨k,hk,rfl,f⟩:=hrel;by_cases hlt:k<S.size
  ·have p:(k:Int)<(S.size:Int):=by omega
   have v:=l.out k hlt;obtain ⟨b,hbb⟩:∃b,S[k]'hlt=b:=⟨_,rfl⟩;rw [hbb] at v;by_cases h0:0<s.size
   ·have y:(0:Int)<(s.size:Int):=by omega
    obtain ⟨c,hc⟩:∃c,s[0]'h0=c:=⟨_,rfl⟩;have g:s.data.toList[0]?=some c:=by rw [Lib.data_getElem? s 0 h0,hc]
    by_cases hcb:c=b
    ·have q1:((c.toNat:Int) == (b.toNat:Int))=true:=by rw [hcb];simp
     have h1i:(1:Int)<=(s.size:Int):=by omega
     obtain ⟨t,ht⟩:∃t,s.extract 1 s.size=t:=⟨_,rfl⟩;have o:t.data.toList=Ba S.data.toList s.data.toList:=by
      have m:c∈S.data.toList:=by
       have:=Lib.data_getElem? S k hlt;rw [hbb,<-hcb] at this;exact List.mem_of_getElem? this
      rw [<-ht,ByteArray.data_extract,Array.toList_extract,List.extract_eq_take_drop];have q:=Ai s;cases hl:s.data.toList with
      | nil=>rw [hl] at g;simp at g
      | cons a r=>
       rw [hl] at g q;have:a=c:=by simpa using g
       subst this;rw [Ca m,List.drop_one,List.tail_cons];exact List.take_of_length_le (by rw [q];simp)
     replace o:=Hd o;replace f:=Hd f;replace g:=Hd g;subst hcb;go_wp2;go_ret;exact ⟨t,rfl,o.out,hb.out⟩
    ·have z:c.toNat≠b.toNat:=fun e=>hcb (UInt8.toNat_inj.1 e)
     have q1:((c.toNat:Int) == (b.toNat:Int))=false:=beq_eq_false_iff_ne.2 (by omega);have q2:¬(c.toNat:Int)=(b.toNat:Int):=by omega
     have d:∀j (h:j<S.size),j<k+1->∀c,s.data.toList[0]?=some c->c≠S[j]'h:=fun j h hj c' hc' => by
      rcases Nat.lt_or_ge j k with h9 | h9
      ·exact f j h h9 c' hc'
      ·obtain rfl:j=k:=by omega
       rw [hbb];rw [g] at hc';have:c=c' := Option.some.inj hc';rw [<-this];exact hcb
     replace d:=Hd d;replace f:=Hd f;replace g:=Hd g;clear hcb z;go_wp2_with fail
     go_round
     case rel=>exact ⟨k+1,by omega,by go_num,d.out⟩
     case measure=>simp [intOf];omega
   ·have y:¬(0:Int)<(s.size:Int):=by omega
    have d:∀j (h:j<S.size),j<k+1->∀c,s.data.toList[0]?=some c->c≠S[j]'h:=fun j h hj c' hc' => by
     have:s.data.toList=[]:=List.length_eq_zero_iff.1 (by rw [<-Ai];omega);rw [this] at hc'; simp at hc'
    replace d:=Hd d;replace f:=Hd f;go_wp2_with fail
    go_round
    case rel=>exact ⟨k+1,by omega,by go_num,d.out⟩
    case measure=>simp [intOf];omega
  ·have p:¬(k:Int)<(S.size:Int):=by omega
   have n:s.data.toList=Ba S.data.toList s.data.toList:=by
    cases hl:s.data.toList with
    | nil=>rfl
    | cons a r=>
     refine (Ct ?_).symm;intro m;obtain ⟨j,hj,he⟩:=List.getElem_of_mem m;have aa : j<S.size:=by rw [Ai];exact hj
     refine f j aa (by omega) a (by rw [hl];rfl) ?_;rw [<-he];rfl
   replace f:=Hd f;replace n:=Hd n;go_wp2;go_ret;exact ⟨s,rfl,n.out,hb.out⟩
theorem drop_text {s:ByteArray} {n:Nat} (hn:n<=s.size):(s.extract n s.size).data.toList=s.data.toList.drop n:=by
 rw [ByteArray.data_extract,Array.toList_extract,List.extract_eq_take_drop];exact List.take_of_length_le (by rw [List.length_drop,<-Ai];exact Nat.le_refl _)
def Dv (mark:UInt8) (S l:List UInt8):List UInt8 × Bool:=
 match l with
 | []=>([],true)
 | c :: r=>if c=mark then ((Ba S r).drop (nD (Ba S r)),decide (0<nD (Ba S r))) else (c :: r,true)
theorem Dh {mark:UInt8} {S r:List UInt8}:Dv mark S (mark :: r)=((Ba S r).drop (nD (Ba S r)),decide (0<nD (Ba S r))):=if_pos rfl
theorem Fy {mark c:UInt8} {S r:List UInt8} (h:c≠mark):Dv mark S (c :: r)=(c :: r,true):=if_neg h
theorem part_any {s S:ByteArray} {mark:UInt8} (hs:s.size<=1000) (hS:S.size<=2) (w:World):Calls Tryz.prog 135 #[.string s,.int .u8 (mark.toNat:Int),.string S] w fun e w' =>
  ∃t:ByteArray,e=.returned (.tuple #[.string t,.bool (Dv mark S.data.toList s.data.toList).2])/\t.data.toList=(Dv mark S.data.toList s.data.toList).1/\t.size<=1000/\Below w.heap.size w w' := by
 have hsz:(s.size:Int)<=1000:=by omega
 cases hl:s.data.toList with
 | nil=>
  have h0:s.size=0:=by rw [Ai,hl];rfl
  have o:((s.size:Int) == 0)=true:=by rw [h0];rfl
  have i:s=ByteArray.empty:=by
   apply ByteArray.ext;apply Array.toList_inj.1;rw [hl];rfl
  have e1:(Dv mark S.data.toList []).2=true:=rfl;have e2:(Dv mark S.data.toList []).1=[]:=rfl;rw [e1,e2];replace hl:=Hd hl;replace h0:=Hd h0;subst i
  go_enter Tryz.func135,Tryz.ntmps135
  go_wp2
  go_ret2
  exact ⟨_,rfl,rfl,by decide,Below.refl _ _⟩
 | cons c r=>
  have h' : s.data.toList.drop 0=c :: r:=hl;obtain ⟨l,hc0,g⟩:=Ag h';have h0i:(0:Int)<(s.size:Int):=by omega
  have o:((s.size:Int) == 0)=false:=beq_eq_false_iff_ne.2 (by omega);have i:¬s=ByteArray.empty:=fun e=>by rw [Ai,e] at l;exact absurd l (by decide)
  by_cases hm:c=mark
  ·subst hm
   rw [Dh];have q1:((c.toNat:Int) != (c.toNat:Int))=false:=by simp
   have h1i:(1:Int)<=(s.size:Int):=by omega
   obtain ⟨s1,hs1⟩:∃s1,s.extract 1 s.size=s1:=⟨_,rfl⟩;have a:s1.data.toList=r:=by rw [<-hs1,drop_text (by omega),hl];rfl
   have j:s1.size<=1000:=by
    rw [Ai,a];have:=congrArg List.length hl;rw [<-Ai] at this;simp at this;omega
   have ha:=Hd (after_any (s:=s1) (S:=S) j hS w);replace a:=Hd a;replace g:=Hd g;replace hl:=Hd hl;clear h'
   go_enter Tryz.func135,Tryz.ntmps135
   go_wp2_with fail
   refine ha.out.mono ?_;rintro e w1 ⟨t,rfl,ht,h⟩;rw [a.out] at ht;have p:t.size<=1000:=by
    rw [Ai,ht];have h1:=afterL_len S.data.toList r;rw [<-a.out,<-Ai] at h1;rw [<-a.out];omega
   have d:=digits_any p w1;rw [ht] at d;obtain ⟨n,hn⟩:∃n,n=nD (Ba S.data.toList r):=⟨_,rfl⟩;have q:n<=t.size:=by rw [Ai,ht,hn];exact nD_le _
   rw [<-hn] at d;have hnti:(n:Int)<=(t.size:Int):=by omega
   have htni:(t.size:Int)<=1000:=by omega
   obtain ⟨t2,ht2⟩:∃t2,t.extract n t.size=t2:=⟨_,rfl⟩;have b:t2.data.toList=(Ba S.data.toList r).drop n:=by rw [<-ht2,drop_text q,ht]
   have k:t2.size<=1000:=by rw [Ai,b,List.length_drop,<-ht,<-Ai];omega
   have f:decide ((0:Int)<(n:Int))=decide (0<n):=decide_eq_decide.2 (by omega);replace f:=Hd f;replace ht:=Hd ht;replace b:=Hd b;replace hn:=Hd hn;replace d:=Hd d;replace h:=Hd h;go_wp2_with fail
   refine d.out.mono ?_;rintro e w' ⟨rfl,m⟩;obtain rfl:=m.symm;clear m;go_wp2
   go_ret2
   exact ⟨t2,by rw [<-hn.out,<-f.out];rfl,by rw [b.out,hn.out],k,h.out⟩
  ·rw [Fy hm]
   have hcn:c.toNat≠mark.toNat:=fun e=>hm (UInt8.toNat_inj.1 e);have q1:((c.toNat:Int) != (mark.toNat:Int))=true:=by simp;omega
   replace hl:=Hd hl;clear h' g
   go_enter Tryz.func135,Tryz.ntmps135
   go_wp2
   go_ret2
   exact ⟨s,rfl,hl.out,hs,Below.refl _ _⟩
def Bc (l:List UInt8):Bool:=
 let a:=Ba [45] l
 let p:=Dv 46 [] (a.drop (nD a))
 let q:=Dv 101 [43,45] p.1
 decide (0<nD a) && p.2 && q.2 && q.1.isEmpty
theorem empty_eq (t:ByteArray):(t=(⟨#[]⟩:ByteArray)) ↔ t.data.toList.isEmpty=true:=by
 rw [List.isEmpty_iff];constructor
 ·intro h;rw [h]
 ·intro h
  apply ByteArray.ext;apply Array.toList_inj.1;rw [h]
theorem F3 {s:ByteArray} (hs:s.size<=1000) (w:World):Calls Tryz.prog 109 #[.string s] w fun e w' => e=.returned (.bool (Bc s.data.toList))/\Below w.heap.size w w' := by
 have ha:=Hd (after_any (s:=s) (S:=⟨#[45]⟩) hs (by decide) w)
 go_enter Tryz.func109,Tryz.ntmps109
 go_wp2_with fail
 refine ha.out.mono ?_;rintro e w1 ⟨t,rfl,ht,k⟩;obtain ⟨A,hA⟩:∃A,A=Ba [45] s.data.toList:=⟨_,rfl⟩;replace ht:t.data.toList=A:=ht.trans hA.symm;have z:t.size<=1000:=by
  rw [Ai,ht,hA];have h1:=afterL_len [45] s.data.toList;rw [<-Ai] at h1;omega
 have f:=digits_any z w1;rw [ht] at f;obtain ⟨n,hn⟩:∃n,n=nD A:=⟨_,rfl⟩;have aa:n<=t.size:=by rw [Ai,ht,hn];exact nD_le _
 rw [<-hn] at f;have hnti:(n:Int)<=(t.size:Int):=by omega
 have htni:(t.size:Int)<=1000:=by omega
 obtain ⟨t2,ht2⟩:∃t2,t.extract n t.size=t2:=⟨_,rfl⟩;have c:t2.data.toList=A.drop n:=by rw [<-ht2,drop_text aa,ht]
 have r:t2.size<=1000:=by rw [Ai,c,List.length_drop,<-ht,<-Ai];omega
 have g:=part_any (s:=t2) (S:=⟨#[]⟩) (mark:=46) r (by decide) w1;obtain ⟨p,hp⟩:∃p,p=Dv 46 [] (A.drop n):=⟨_,rfl⟩;rw [c,show (⟨#[]⟩:ByteArray).data.toList=[] from rfl,<-hp] at g;have ab:((46:UInt8).toNat:Int)=46:=rfl;have h:((101:UInt8).toNat:Int)=101:=rfl;rw [ab] at g;replace h:=Hd h;replace ht:=Hd ht;replace hA:=Hd hA;replace hn:=Hd hn;replace hp:=Hd hp;replace c:=Hd c;replace f:=Hd f;replace g:=Hd g;replace k:=Hd k;clear ha;go_wp2_with fail
 refine f.out.mono ?_;rintro e w' ⟨rfl,u⟩;obtain rfl:=u.symm;clear u;go_wp2_with fail
 refine g.out.mono ?_;rintro e w2 ⟨t3,rfl,m,v,y⟩;have j:=part_any (s:=t3) (S:=⟨#[43,45]⟩) (mark:=101) v (by decide) w2;obtain ⟨q,hq⟩:∃q,q=Dv 101 [43,45] p.1:=⟨_,rfl⟩;rw [m,show (⟨#[43,45]⟩:ByteArray).data.toList=[43,45] from rfl,<-hq,h.out] at j;have d:=k.out.trans (y.mono k.out.size);obtain ⟨pb,hpb⟩:∃pb,pb=p.2:=⟨_,rfl⟩;rw [<-hpb];replace hpb:=Hd hpb;replace hq:=Hd hq;replace m:=Hd m;replace j:=Hd j;replace d:=Hd d;clear y;go_wp2_with fail
 refine j.out.mono ?_;rintro e w3 ⟨t4,rfl,o,ht4n,ad⟩;have b:=d.out.trans (ad.mono d.out.size);have hR:Bc s.data.toList=(decide (0<n) && pb && q.2 && q.1.isEmpty):=by
  unfold Bc;simp only [<-hA.out,<-hn.out,<-hp.out,<-hpb.out,<-hq.out]
 have i:=empty_eq t4;rw [o] at i;have l:decide ((0:Int)<(n:Int))=decide (0<n):=decide_eq_decide.2 (by omega);replace b:=Hd b;replace i:=Hd i;replace l:=Hd l;obtain ⟨q2,hq2⟩:∃q2,q2=q.2:=⟨_,rfl⟩;obtain ⟨qe,hqe⟩:∃qe,qe=q.1.isEmpty:=⟨_,rfl⟩;rw [<-hq2,<-hqe] at hR;rw [<-hq2];replace hq2:=Hd hq2;replace hR:=Hd hR;by_cases h0:0<n
 ·have ac:(0:Int)<(n:Int):=by omega
  cases pb with
  | false=>
   have a:Bc s.data.toList=false:=by rw [hR.out];simp
   replace a:=Hd a;go_wp2;go_ret;exact ⟨by rw [a.out];rfl,b.out⟩
  | true=>
   cases q2 with
   | false=>
    have a:Bc s.data.toList=false:=by rw [hR.out];simp
    replace a:=Hd a;go_wp2;go_ret;exact ⟨by rw [a.out];rfl,b.out⟩
   | true=>
    cases qe with
    | true=>
     have a:Bc s.data.toList=true:=by rw [hR.out];simp [h0]
     have h4:t4=ByteArray.empty:=i.out.2 hqe.symm;have h8:t4.toList.isEmpty=true:=by rw [ByteArray.toList_eq,o];exact hqe.symm
     clear h4;replace hqe:=Hd hqe;replace a:=Hd a;go_wp2;go_ret;exact ⟨by rw [a.out];rfl,b.out⟩
    | false=>
     have a:Bc s.data.toList=false:=by rw [hR.out];simp
     have h4:¬t4=ByteArray.empty:=fun e=>by
      have:=i.out.1 e;rw [<-hqe] at this;cases this
     have h5:decide (t4=ByteArray.empty)=false:=decide_eq_false h4;have h6:(t4 == ByteArray.empty)=false:=beq_eq_false_iff_ne.2 h4;have h7:(t4 == (⟨#[]⟩:ByteArray))=false:=h6;have h8:t4.toList.isEmpty=false:=by rw [ByteArray.toList_eq,o];exact hqe.symm
     clear h4 h5 h6 h7;replace hqe:=Hd hqe;replace a:=Hd a;go_wp2;go_ret;exact ⟨by rw [a.out];rfl,b.out⟩
 ·have ac:¬(0:Int)<(n:Int):=by omega
  have a:Bc s.data.toList=false:=by rw [hR.out,decide_eq_false h0];simp
  replace a:=Hd a;go_wp2;go_ret;exact ⟨by rw [a.out];rfl,b.out⟩
