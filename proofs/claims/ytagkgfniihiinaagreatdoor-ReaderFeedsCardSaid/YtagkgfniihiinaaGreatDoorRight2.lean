/- real.right: whether a text is as a number is. -/
import Derived.Test.YtagkgfniihiinaaGreatDoorReadF
import Derived.Lib.ConvBytes
import Derived.Lib.SmallJoins
set_option linter.all false
namespace Go.Proofs.YtagkgfniihiinaaGreatDoor
open Go.RowKit
def nD (l:List UInt8):Nat:=(l.takeWhile isD).length
theorem nD_le (l:List UInt8):nD l<=l.length:=(List.takeWhile_sublist _).length_le
theorem nD_at:∀(l:List UInt8) (k:Nat) (c:UInt8),k<nD l->l[k]?=some c->isD c=true
 | [],k,c,h,_=>by simp [nD] at h
 | a :: l,k,c,h,hc=>by
   unfold nD at h;rw [List.takeWhile_cons] at h;split at h
   · rename_i ha
     cases k with
     | zero=>simp at hc;rw [<-hc];exact ha
     | succ k=>exact nD_at l k c (by simpa [nD] using h) (by simpa using hc)
   · simp at h
theorem nD_end:∀(l:List UInt8) (c:UInt8),l[nD l]?=some c->isD c=false
 | [],c,h=>by simp at h
 | a :: l,c,h=>by
   unfold nD at h;rw [List.takeWhile_cons] at h;split at h
   · exact nD_end l c (by simpa [nD] using h)
   · rename_i ha
     simp at h;rw [<-h];simpa using ha
set_option maxRecDepth 100000 in
theorem digits_any {s:ByteArray} (hs:s.size<=1000) (w:World):Calls Tryz.prog 134 #[.string s] w fun e w' => e=.returned (.int .i64 (nD s.data.toList:Int))/\w' = w:=by
 obtain ⟨n,hn⟩:∃n,n=nD s.data.toList:=⟨_,rfl⟩;have hns:n<=s.size:=by rw [Aj,hn];exact nD_le _
 have hsz:(s.size:Int)<=1000:=by omega
 rw [<-hn];replace hn:=Hd hn
 go_enter Tryz.func134,Tryz.ntmps134
 go_wp2_with fail
 go_loop [3] (fun i=>∃k:Nat,k<=n/\i=.int .i64 k) (fun i=>n - (intOf i).toNat)
 case atStart=>exact ⟨0,Nat.zero_le _,rfl⟩
 case round=>
   obtain ⟨k,hk,rfl⟩:=hrel;by_cases hlt:k<s.size
   · obtain ⟨c,hc⟩:∃c,s[k]'hlt=c:=⟨_,rfl⟩
     have hcl:s.data.toList[k]?=some c:=by rw [Lib.data_getElem? s k hlt,hc]
     have hlti:(k:Int)<(s.size:Int):=by omega
     by_cases hkn:k<n
     · have hd:=nD_at _ k c (by rw [<-hn.out];exact hkn) hcl
       have hd2:48<=c.toNat/\c.toNat<=57:=by simp [isD] at hd;exact hd
       have r1:(48:Int)<=(c.toNat:Int):=by omega
       have r2:(c.toNat:Int)<=57:=by omega
       replace hcl:=Hd hcl;clear hd;go_wp2_with fail
       go_round
       case rel=>exact ⟨k+1,by omega,by go_num⟩
       case measure=>simp [intOf];omega
     · have hke:k=n:=by omega
       have hd:=nD_end _ c (by rw [<-hn.out,<-hke];exact hcl);have hd2:¬(48<=c.toNat/\c.toNat<=57):=by simp [isD] at hd;omega
       have e1:((k:Nat):Int)=(n:Int):=by omega
       replace hcl:=Hd hcl;replace e1:=Hd e1;replace hke:=Hd hke;clear hd;by_cases h1:48<=c.toNat
       · have r1:(48:Int)<=(c.toNat:Int):=by omega
         have r2:¬(c.toNat:Int)<=57:=by omega
         clear hd2 h1;go_wp2;go_ret;exact ⟨by rw [<-e1.out];rfl,rfl⟩
       · have r1:¬(48:Int)<=(c.toNat:Int):=by omega
         clear hd2 h1;go_wp2;go_ret;exact ⟨by rw [<-e1.out];rfl,rfl⟩
   · have hlti:¬(k:Int)<(s.size:Int):=by omega
     have e1:((k:Nat):Int)=(n:Int):=by omega
     replace e1:=Hd e1;go_wp2;go_ret;exact ⟨by rw [<-e1.out];rfl,rfl⟩
def A9 (S l:List UInt8):List UInt8:=match l with | []=>[] | c :: r=>if c∈S then r else c :: r
theorem Cu {S:List UInt8} {c:UInt8} {r:List UInt8} (h:c∈S):A9 S (c :: r)=r:=if_pos h
theorem Db {S:List UInt8} {c:UInt8} {r:List UInt8} (h:¬c∈S):A9 S (c :: r)=c :: r:=if_neg h
theorem afterL_len (S l:List UInt8):(A9 S l).length<=l.length:=by
 cases l with
 | nil=>exact Nat.le_refl _
 | cons c r=>
   by_cases h:c∈S
   · rw [Cu h];simp
   · rw [Db h];exact Nat.le_refl _
set_option maxRecDepth 100000 in
set_option maxHeartbeats 1600000 in
theorem after_any {s S:ByteArray} (hs:s.size<=1000) (hS:S.size<=2) (w:World):Calls Tryz.prog 133 #[.string s,.string S] w fun e w' => ∃t:ByteArray,e=.returned (.string t)/\t.data.toList=A9 S.data.toList s.data.toList/\Below w.heap.size w w' := by
 have hcv:=Lib.run_convert_string_bytes (P:=Tryz.prog) w 9 27 5 S Tryz.underlying9 Tryz.underlying27 Tryz.underlying5;obtain ⟨w1,hw1⟩:∃w1,w1=Lib.bytesWorld w 5 S:=⟨_,rfl⟩;rw [<-hw1] at hcv;have hb:Below w.heap.size w w1:=by rw [hw1];exact Go.Joins.below_bytesWorld _ _ _ _ (Nat.le_refl _)
 have hcell:∀j (h:j<S.size),w1.cell? ⟨w.heap.size,j,none⟩=some (.int .u8 ((S[j]'h).toNat:Int)):=fun j h=>by
   rw [hw1,Lib.bytesWorld_cell w 5 S j h,List.getD_eq_getElem?_getD,Lib.data_getElem? S j h];rfl
 have hsz:(s.size:Int)<=1000:=by omega
 replace hw1:=Hd hw1;replace hb:=Hd hb;replace hcell:=Hd hcell
 go_enter Tryz.func133,Tryz.ntmps133
 go_wp2_with fail
 go_loop [6,10] (fun _ i=>∃k:Nat,k<=S.size/\i=.int .i64 k/\∀j (h:j<S.size),j<k->∀c,s.data.toList[0]?=some c->c≠S[j]'h) (fun _ i=>S.size - (intOf i).toNat)
 case atStart=>exact ⟨0,Nat.zero_le _,rfl,fun j _ h=>absurd h (Nat.not_lt_zero _)⟩
 case round=>
   obtain ⟨k,hk,rfl,hno⟩:=hrel;by_cases hlt:k<S.size
   · have hlti:(k:Int)<(S.size:Int):=by omega
     have hck:=hcell.out k hlt;obtain ⟨b,hbb⟩:∃b,S[k]'hlt=b:=⟨_,rfl⟩;rw [hbb] at hck;by_cases h0:0<s.size
     · have h0i:(0:Int)<(s.size:Int):=by omega
       obtain ⟨c,hc⟩:∃c,s[0]'h0=c:=⟨_,rfl⟩;have hcl:s.data.toList[0]?=some c:=by rw [Lib.data_getElem? s 0 h0,hc]
       by_cases hcb:c=b
       · have q1:((c.toNat:Int) == (b.toNat:Int))=true:=by rw [hcb];simp
         have h1i:(1:Int)<=(s.size:Int):=by omega
         obtain ⟨t,ht⟩:∃t,s.extract 1 s.size=t:=⟨_,rfl⟩;have htl:t.data.toList=A9 S.data.toList s.data.toList:=by
           have hmem:c∈S.data.toList:=by
             have:=Lib.data_getElem? S k hlt;rw [hbb,<-hcb] at this;exact List.mem_of_getElem? this
           rw [<-ht,ByteArray.data_extract,Array.toList_extract,List.extract_eq_take_drop];have hsl:=Aj s;cases hl:s.data.toList with
           | nil=>rw [hl] at hcl;simp at hcl
           | cons a r=>
             rw [hl] at hcl hsl;have:a=c:=by simpa using hcl
             subst this;rw [Cu hmem,List.drop_one,List.tail_cons];exact List.take_of_length_le (by rw [hsl];simp)
         replace htl:=Hd htl;replace hno:=Hd hno;replace hcl:=Hd hcl;subst hcb;go_wp2;go_ret;exact ⟨t,rfl,htl.out,hb.out⟩
       · have hcn:c.toNat≠b.toNat:=fun e=>hcb (UInt8.toNat_inj.1 e)
         have q1:((c.toNat:Int) == (b.toNat:Int))=false:=beq_eq_false_iff_ne.2 (by omega);have q2:¬(c.toNat:Int)=(b.toNat:Int):=by omega
         have hno1:∀j (h:j<S.size),j<k+1->∀c,s.data.toList[0]?=some c->c≠S[j]'h:=fun j h hj c' hc' => by
           rcases Nat.lt_or_ge j k with h9 | h9
           · exact hno j h h9 c' hc'
           · obtain rfl:j=k:=by omega
             rw [hbb];rw [hcl] at hc';have:c=c' := Option.some.inj hc';rw [<-this];exact hcb
         replace hno1:=Hd hno1;replace hno:=Hd hno;replace hcl:=Hd hcl;clear hcb hcn;go_wp2_with fail
         go_round
         case rel=>exact ⟨k+1,by omega,by go_num,hno1.out⟩
         case measure=>simp [intOf];omega
     · have h0i:¬(0:Int)<(s.size:Int):=by omega
       have hno1:∀j (h:j<S.size),j<k+1->∀c,s.data.toList[0]?=some c->c≠S[j]'h:=fun j h hj c' hc' => by
         have:s.data.toList=[]:=List.length_eq_zero_iff.1 (by rw [<-Aj];omega);rw [this] at hc'; simp at hc'
       replace hno1:=Hd hno1;replace hno:=Hd hno;go_wp2_with fail
       go_round
       case rel=>exact ⟨k+1,by omega,by go_num,hno1.out⟩
       case measure=>simp [intOf];omega
   · have hlti:¬(k:Int)<(S.size:Int):=by omega
     have hfin:s.data.toList=A9 S.data.toList s.data.toList:=by
       cases hl:s.data.toList with
       | nil=>rfl
       | cons a r=>
         refine (Db ?_).symm;intro hmem;obtain ⟨j,hj,he⟩:=List.getElem_of_mem hmem;have hj' : j<S.size:=by rw [Aj];exact hj
         refine hno j hj' (by omega) a (by rw [hl];rfl) ?_;rw [<-he];rfl
     replace hno:=Hd hno;replace hfin:=Hd hfin;go_wp2;go_ret;exact ⟨s,rfl,hfin.out,hb.out⟩
theorem drop_text {s:ByteArray} {n:Nat} (hn:n<=s.size):(s.extract n s.size).data.toList=s.data.toList.drop n:=by
 rw [ByteArray.data_extract,Array.toList_extract,List.extract_eq_take_drop];exact List.take_of_length_le (by rw [List.length_drop,<-Aj];exact Nat.le_refl _)
def D7 (mark:UInt8) (S l:List UInt8):List UInt8 × Bool:=
 match l with
 | []=>([],true)
 | c :: r=>if c=mark then ((A9 S r).drop (nD (A9 S r)),decide (0<nD (A9 S r))) else (c :: r,true)
theorem Fo {mark:UInt8} {S r:List UInt8}:D7 mark S (mark :: r)=((A9 S r).drop (nD (A9 S r)),decide (0<nD (A9 S r))):=if_pos rfl
theorem Ft {mark c:UInt8} {S r:List UInt8} (h:c≠mark):D7 mark S (c :: r)=(c :: r,true):=if_neg h
set_option maxRecDepth 100000 in
set_option maxHeartbeats 1600000 in
theorem part_any {s S:ByteArray} {mark:UInt8} (hs:s.size<=1000) (hS:S.size<=2) (w:World):Calls Tryz.prog 135 #[.string s,.int .u8 (mark.toNat:Int),.string S] w fun e w' =>
   ∃t:ByteArray,e=.returned (.tuple #[.string t,.bool (D7 mark S.data.toList s.data.toList).2])/\t.data.toList=(D7 mark S.data.toList s.data.toList).1/\t.size<=1000/\Below w.heap.size w w' := by
 have hsz:(s.size:Int)<=1000:=by omega
 cases hl:s.data.toList with
 | nil=>
   have h0:s.size=0:=by rw [Aj,hl];rfl
   have h00:((s.size:Int) == 0)=true:=by rw [h0];rfl
   have hse:s=ByteArray.empty:=by
     apply ByteArray.ext;apply Array.toList_inj.1;rw [hl];rfl
   have e1:(D7 mark S.data.toList []).2=true:=rfl;have e2:(D7 mark S.data.toList []).1=[]:=rfl;rw [e1,e2];replace hl:=Hd hl;replace h0:=Hd h0;subst hse
   go_enter Tryz.func135,Tryz.ntmps135
   go_wp2
   go_ret2
   exact ⟨_,rfl,rfl,by decide,Below.refl _ _⟩
 | cons c r=>
   have h' : s.data.toList.drop 0=c :: r:=hl;obtain ⟨hlt,hc0,hd1⟩:=Ah h';have h0i:(0:Int)<(s.size:Int):=by omega
   have h00:((s.size:Int) == 0)=false:=beq_eq_false_iff_ne.2 (by omega);have hse:¬s=ByteArray.empty:=fun e=>by rw [Aj,e] at hlt;exact absurd hlt (by decide)
   by_cases hm:c=mark
   · subst hm
     rw [Fo];have q1:((c.toNat:Int) != (c.toNat:Int))=false:=by simp
     have h1i:(1:Int)<=(s.size:Int):=by omega
     obtain ⟨s1,hs1⟩:∃s1,s.extract 1 s.size=s1:=⟨_,rfl⟩;have hs1l:s1.data.toList=r:=by rw [<-hs1,drop_text (by omega),hl];rfl
     have hs1n:s1.size<=1000:=by
       rw [Aj,hs1l];have:=congrArg List.length hl;rw [<-Aj] at this;simp at this;omega
     have ha:=after_any (s:=s1) (S:=S) hs1n hS w;replace ha:=Hd ha;replace hs1l:=Hd hs1l;replace hd1:=Hd hd1;replace hl:=Hd hl;clear h'
     go_enter Tryz.func135,Tryz.ntmps135
     go_wp2_with fail
     refine ha.out.mono ?_;rintro e w1 ⟨t,rfl,ht,hb1⟩;rw [hs1l.out] at ht;have htn:t.size<=1000:=by
       rw [Aj,ht];have h1:=afterL_len S.data.toList r;rw [<-hs1l.out,<-Aj] at h1;rw [<-hs1l.out];omega
     have hdg:=digits_any htn w1;rw [ht] at hdg;obtain ⟨n,hn⟩:∃n,n=nD (A9 S.data.toList r):=⟨_,rfl⟩;have hnt:n<=t.size:=by rw [Aj,ht,hn];exact nD_le _
     rw [<-hn] at hdg;have hnti:(n:Int)<=(t.size:Int):=by omega
     have htni:(t.size:Int)<=1000:=by omega
     obtain ⟨t2,ht2⟩:∃t2,t.extract n t.size=t2:=⟨_,rfl⟩;have ht2l:t2.data.toList=(A9 S.data.toList r).drop n:=by rw [<-ht2,drop_text hnt,ht]
     have ht2n:t2.size<=1000:=by rw [Aj,ht2l,List.length_drop,<-ht,<-Aj];omega
     have hdec:decide ((0:Int)<(n:Int))=decide (0<n):=decide_eq_decide.2 (by omega);replace hdec:=Hd hdec;replace ht:=Hd ht;replace ht2l:=Hd ht2l;replace hn:=Hd hn;replace hdg:=Hd hdg;replace hb1:=Hd hb1;go_wp2_with fail
     refine hdg.out.mono ?_;rintro e w' ⟨rfl,hww⟩;obtain rfl:=hww.symm;clear hww;go_wp2
     go_ret2
     exact ⟨t2,by rw [<-hn.out,<-hdec.out];rfl,by rw [ht2l.out,hn.out],ht2n,hb1.out⟩
   · rw [Ft hm]
     have hcn:c.toNat≠mark.toNat:=fun e=>hm (UInt8.toNat_inj.1 e);have q1:((c.toNat:Int) != (mark.toNat:Int))=true:=by simp;omega
     replace hl:=Hd hl;clear h' hd1
     go_enter Tryz.func135,Tryz.ntmps135
     go_wp2
     go_ret2
     exact ⟨s,rfl,hl.out,hs,Below.refl _ _⟩
def Bh (l:List UInt8):Bool:=
 let a:=A9 [45] l
 let p:=D7 46 [] (a.drop (nD a))
 let q:=D7 101 [43,45] p.1
 decide (0<nD a) && p.2 && q.2 && q.1.isEmpty
theorem empty_eq (t:ByteArray):(t=(⟨#[]⟩:ByteArray)) ↔ t.data.toList.isEmpty=true:=by
 rw [List.isEmpty_iff];constructor
 · intro h;rw [h]
 · intro h
   apply ByteArray.ext;apply Array.toList_inj.1;rw [h]
set_option maxRecDepth 100000 in
set_option maxHeartbeats 1600000 in
theorem El {s:ByteArray} (hs:s.size<=1000) (w:World):Calls Tryz.prog 109 #[.string s] w fun e w' => e=.returned (.bool (Bh s.data.toList))/\Below w.heap.size w w' := by
 have ha:=after_any (s:=s) (S:=⟨#[45]⟩) hs (by decide) w;replace ha:=Hd ha
 go_enter Tryz.func109,Tryz.ntmps109
 go_wp2_with fail
 refine ha.out.mono ?_;rintro e w1 ⟨t,rfl,ht,hb1⟩;obtain ⟨A,hA⟩:∃A,A=A9 [45] s.data.toList:=⟨_,rfl⟩;replace ht:t.data.toList=A:=ht.trans hA.symm;have htn:t.size<=1000:=by
   rw [Aj,ht,hA];have h1:=afterL_len [45] s.data.toList;rw [<-Aj] at h1;omega
 have hdg:=digits_any htn w1;rw [ht] at hdg;obtain ⟨n,hn⟩:∃n,n=nD A:=⟨_,rfl⟩;have hnt:n<=t.size:=by rw [Aj,ht,hn];exact nD_le _
 rw [<-hn] at hdg;have hnti:(n:Int)<=(t.size:Int):=by omega
 have htni:(t.size:Int)<=1000:=by omega
 obtain ⟨t2,ht2⟩:∃t2,t.extract n t.size=t2:=⟨_,rfl⟩;have ht2l:t2.data.toList=A.drop n:=by rw [<-ht2,drop_text hnt,ht]
 have ht2n:t2.size<=1000:=by rw [Aj,ht2l,List.length_drop,<-ht,<-Aj];omega
 have hp1:=part_any (s:=t2) (S:=⟨#[]⟩) (mark:=46) ht2n (by decide) w1;obtain ⟨p,hp⟩:∃p,p=D7 46 [] (A.drop n):=⟨_,rfl⟩;rw [ht2l,show (⟨#[]⟩:ByteArray).data.toList=[] from rfl,<-hp] at hp1;have e46:((46:UInt8).toNat:Int)=46:=rfl;have e101:((101:UInt8).toNat:Int)=101:=rfl;rw [e46] at hp1;replace e101:=Hd e101;replace ht:=Hd ht;replace hA:=Hd hA;replace hn:=Hd hn;replace hp:=Hd hp;replace ht2l:=Hd ht2l;replace hdg:=Hd hdg;replace hp1:=Hd hp1;replace hb1:=Hd hb1;clear ha;go_wp2_with fail
 refine hdg.out.mono ?_;rintro e w' ⟨rfl,hww⟩;obtain rfl:=hww.symm;clear hww;go_wp2_with fail
 refine hp1.out.mono ?_;rintro e w2 ⟨t3,rfl,ht3,ht3n,hb2⟩;have hp2:=part_any (s:=t3) (S:=⟨#[43,45]⟩) (mark:=101) ht3n (by decide) w2;obtain ⟨q,hq⟩:∃q,q=D7 101 [43,45] p.1:=⟨_,rfl⟩;rw [ht3,show (⟨#[43,45]⟩:ByteArray).data.toList=[43,45] from rfl,<-hq,e101.out] at hp2;have hb02:=hb1.out.trans (hb2.mono hb1.out.size);obtain ⟨pb,hpb⟩:∃pb,pb=p.2:=⟨_,rfl⟩;rw [<-hpb];replace hpb:=Hd hpb;replace hq:=Hd hq;replace ht3:=Hd ht3;replace hp2:=Hd hp2;replace hb02:=Hd hb02;clear hb2;go_wp2_with fail
 refine hp2.out.mono ?_;rintro e w3 ⟨t4,rfl,ht4,ht4n,hb3⟩;have hb03:=hb02.out.trans (hb3.mono hb02.out.size);have hR:Bh s.data.toList=(decide (0<n) && pb && q.2 && q.1.isEmpty):=by
   unfold Bh;simp only [<-hA.out,<-hn.out,<-hp.out,<-hpb.out,<-hq.out]
 have hem:=empty_eq t4;rw [ht4] at hem;have hdec:decide ((0:Int)<(n:Int))=decide (0<n):=decide_eq_decide.2 (by omega);replace hb03:=Hd hb03;replace hem:=Hd hem;replace hdec:=Hd hdec;obtain ⟨q2,hq2⟩:∃q2,q2=q.2:=⟨_,rfl⟩;obtain ⟨qe,hqe⟩:∃qe,qe=q.1.isEmpty:=⟨_,rfl⟩;rw [<-hq2,<-hqe] at hR;rw [<-hq2];replace hq2:=Hd hq2;replace hR:=Hd hR;by_cases h0:0<n
 · have h0i:(0:Int)<(n:Int):=by omega
   cases pb with
   | false=>
     have hRf:Bh s.data.toList=false:=by rw [hR.out];simp
     replace hRf:=Hd hRf;go_wp2;go_ret;exact ⟨by rw [hRf.out];rfl,hb03.out⟩
   | true=>
     cases q2 with
     | false=>
       have hRf:Bh s.data.toList=false:=by rw [hR.out];simp
       replace hRf:=Hd hRf;go_wp2;go_ret;exact ⟨by rw [hRf.out];rfl,hb03.out⟩
     | true=>
       cases qe with
       | true=>
         have hRf:Bh s.data.toList=true:=by rw [hR.out];simp [h0]
         have h4:t4=ByteArray.empty:=hem.out.2 hqe.symm;have h8:t4.toList.isEmpty=true:=by rw [ByteArray.toList_eq,ht4];exact hqe.symm
         clear h4;replace hqe:=Hd hqe;replace hRf:=Hd hRf;go_wp2;go_ret;exact ⟨by rw [hRf.out];rfl,hb03.out⟩
       | false=>
         have hRf:Bh s.data.toList=false:=by rw [hR.out];simp
         have h4:¬t4=ByteArray.empty:=fun e=>by
           have:=hem.out.1 e;rw [<-hqe] at this;cases this
         have h5:decide (t4=ByteArray.empty)=false:=decide_eq_false h4;have h6:(t4 == ByteArray.empty)=false:=beq_eq_false_iff_ne.2 h4;have h7:(t4 == (⟨#[]⟩:ByteArray))=false:=h6;have h8:t4.toList.isEmpty=false:=by rw [ByteArray.toList_eq,ht4];exact hqe.symm
         clear h4 h5 h6 h7;replace hqe:=Hd hqe;replace hRf:=Hd hRf;go_wp2;go_ret;exact ⟨by rw [hRf.out];rfl,hb03.out⟩
 · have h0i:¬(0:Int)<(n:Int):=by omega
   have hRf:Bh s.data.toList=false:=by rw [hR.out,decide_eq_false h0];simp
   replace hRf:=Hd hRf;go_wp2;go_ret;exact ⟨by rw [hRf.out];rfl,hb03.out⟩
end Go.Proofs.YtagkgfniihiinaaGreatDoor
