/- real.Parse at the digits of a whole number. -/
import Derived.Test.YteoalcmhdoopnaaGreatDoorJ28
import Derived.Test.YteoalcmhdoopnaaGreatDoorJ37
import Derived.Test.YteoalcmhdoopnaaGreatDoorAtofM
import Derived.Test.YteoalcmhdoopnaaGreatDoorRight2
namespace Go.Proofs.YteoalcmhdoopnaaGreatDoor
open Go.RowKit
theorem sparse_okB {s:ByteArray} {r:Nat} {w:World} (h:Calls Tryz.prog 88 #[.string s] w fun e w' => e=.returned (.tuple #[.float .f64 r,.int .i64 (s.size:Int),.nilIface])/\Below w.heap.size w w') :
   Calls Tryz.prog 42 #[.string s,.int .i64 64] w fun e w' => e=.returned (.tuple #[.float .f64 r,.nilIface])/\Below w.heap.size w w' := by
 have h2:Calls Tryz.prog 72 #[.string s,.int .i64 64] w fun e w' => e=.returned (.tuple #[.float .f64 r,.int .i64 (s.size:Int),.nilIface])/\Below w.heap.size w w' := by
   replace h:=Hd h
   go_enter Tryz.func72,Tryz.ntmps72
   go_wp2_with fail
   refine h.out.mono ?_;rintro e w' ⟨rfl,hww⟩;go_wp2;exact bodyPost_ret (v:=.tuple #[.float .f64 r,.int .i64 (s.size:Int),.nilIface]) (by simp [results,Tryz.results72,go_sem]) rfl ⟨rfl,hww⟩
 have h3:Calls Tryz.prog 57 #[.string s,.int .i64 64] w fun e w' => e=.returned (.tuple #[.float .f64 r,.nilIface])/\Below w.heap.size w w' := by
   replace h2:=Hd h2;clear h;have hbs:((s.size:Int) != (s.size:Int))=false:=by simp
   go_enter Tryz.func57,Tryz.ntmps57
   go_wp2_with fail
   refine h2.out.mono ?_;rintro e w' ⟨rfl,hww⟩;go_wp2
   go_ret2
   exact ⟨rfl,hww⟩
 replace h3:=Hd h3
 clear h h2
 go_enter Tryz.func42,Tryz.ntmps42
 go_wp2_with fail
 refine h3.out.mono ?_
 rintro e w' ⟨rfl,hww⟩
 go_wp2
 go_ret2
 exact ⟨rfl,hww⟩
set_option maxRecDepth 100000 in
set_option maxHeartbeats 1600000 in
theorem parse_numB {s:ByteArray} {neg:Bool} {c:UInt8} {l:List UInt8} {r:Nat} {w:World} (h:s.data.toList=(if neg then [45] else [])++c :: l) (hc:isD c=true) (hs:s.size<=64) (hr:A0 s.data.toList=true)
   (hp:∀w', Below w.heap.size w w' -> Calls Tryz.prog 42 #[.string s,.int .i64 64] w' fun e w'' => e=.returned (.tuple #[.float .f64 r,.nilIface])/\Below w'.heap.size w' w'') :
   Calls Tryz.prog 30 #[.string s] w fun e w' => e=.returned (.tuple #[.float .f64 r,.int .i64 0])/\Below w.heap.size w w' := by
 obtain ⟨k1,k2,k3⟩:=num_head h hc
 have hra:=D6 (s:=s) (by omega) w
 rw [hr] at hra
 have hsz:¬(64:Int)<(s.size:Int):=by omega
 replace hra:=Hd hra
 replace hp:=Hd hp
 clear h hc hr
 go_enter Tryz.func30,Tryz.ntmps30
 go_wp2_with fail
 refine hra.out.mono ?_
 rintro e w1 ⟨rfl,hb⟩
 have hp1:=hp.out w1 hb
 replace hp1:=Hd hp1
 go_wp2_with fail
 refine hp1.out.mono ?_
 rintro e w2 ⟨rfl,hww⟩
 go_wp2
 go_ret2
 exact ⟨rfl,hb.trans (hww.mono hb.size)⟩
theorem dec_cons (n:Nat):∃c l,Lib.decDigits n=c :: l/\isD c=true:=by
 cases h:Lib.decDigits n with
 | nil=>exact absurd h (dec_nil n)
 | cons c l=>exact ⟨c,l,rfl,Br n c (by rw [h];exact List.mem_cons_self ..)⟩
theorem whole_form {s:ByteArray} {neg:Bool} {n:Nat} (hs:s.data.toList=At neg++Lib.decDigits n) (h:Lib.nDigits n<=19):FTxt s neg false (Lib.decDigits n) (Lib.nDigits n) 0:=by
 obtain ⟨c,l,hcl,hc⟩:=dec_cons n;refine ⟨⟨c,l,[],?_,hc,?_,.none,?_⟩,?_,dec_nil n⟩
 · rw [hs,hcl];rfl
 · rw [<-hcl]
   have:=Dc (D:=Lib.decDigits n) (l:=[]) (d:=false) (L:=[]) (m:=0) (Br n);rw [List.append_nil] at this;rw [this,Bn,List.nil_append,Nat.zero_add,Lib.decDigits_length]
 · intro b hb
   rw [<-hcl] at hb;exact .inl (Br n b hb)
 · rw [Ad,hs,List.length_append,Lib.decDigits_length]
   cases neg<;>simp [At]<;>omega
theorem nD_all:∀{l:List UInt8},(∀c∈l,isD c=true)->nD l=l.length
 | [],_=>rfl
 | c :: l,h=>by
   unfold nD;rw [List.takeWhile_cons_of_pos (h c (List.mem_cons_self ..)),List.length_cons,List.length_cons];congr 1;exact nD_all (fun x hx=>h x (List.mem_cons_of_mem _ hx))
end Go.Proofs.YteoalcmhdoopnaaGreatDoor
namespace Go.Proofs.YteoalcmhdoopnaaGreatDoor
theorem Fp (l:List UInt8):Ay [] l=l:=by cases l<;>rfl
theorem nD_app:∀{A B:List UInt8},(∀c∈A,isD c=true)->(∀c l,B=c :: l->isD c=false)->nD (A++B)=A.length
 | [],[],_,_=>rfl
 | [],c :: l,_,h=>by
   unfold nD;rw [List.nil_append,List.takeWhile_cons_of_neg (by rw [h c l rfl];decide)]
 | a :: A,B,h,hB=>by
   have ih:=nD_app (A:=A) (B:=B) (fun x hx=>h x (List.mem_cons_of_mem _ hx)) hB;unfold nD at ih ⊢;rw [List.cons_append,List.takeWhile_cons_of_pos (h a (List.mem_cons_self ..)),List.length_cons,ih,List.length_cons]
theorem part_exp {X:List UInt8} {x:Int} (h:ExpAt X x):Cz 101 [43,45] X=([],true):=by
 have key:∀E:List UInt8,E≠[]->(∀c∈E,isD c=true)->(E.drop (nD E),decide (0<nD E))=(([]:List UInt8),true):=fun E hE hd=>by
   rw [nD_all hd,List.drop_length,decide_eq_true (List.length_pos_iff.2 hE)]
 cases h with
 | none=>rfl
 | @bare E hE hd=>
   rw [Ct];have:Ay [43,45] E=E:=by
     cases E with
     | nil=>rfl
     | cons c l=>
       have hc:=hd c (List.mem_cons_self ..);refine Ca fun hm=>?_;rcases List.mem_cons.1 hm with rfl | hm
       · exact absurd hc (by decide)
       · rw [List.mem_singleton] at hm
         subst hm;exact absurd hc (by decide)
   rw [this];exact key E hE hd
 | @plus E hE hd=>rw [Ct,Bl (by decide)];exact key E hE hd
 | @minus E hE hd=>rw [Ct,Bl (by decide)];exact key E hE hd
theorem right_form {A F X:List UInt8} {fr:Bool} {x:Int} (neg:Bool) (hA:A≠[]) (hAd:∀c∈A,isD c=true) (hF:fr=true->F≠[]) (hFd:∀c∈F,isD c=true) (hX:ExpAt X x) :
   A0 (At neg++(A++(Bq fr F++X)))=true:=by
 have hXd:∀c l,X=c :: l->isD c=false:=fun c l e=>by rw [exp_head hX c l e];decide
 have ha:Ay [45] (At neg++(A++(Bq fr F++X)))=A++(Bq fr F++X):=by
   cases A with
   | nil=>exact absurd rfl hA
   | cons c l=>
     have hc:=hAd c (List.mem_cons_self ..);cases neg
     · refine Ca fun hm=>?_
       rw [List.mem_singleton] at hm;subst hm;exact absurd hc (by decide)
     · exact Bl (by decide)
 have hn:nD (A++(Bq fr F++X))=A.length:=by
   refine nD_app hAd ?_;intro c l e;unfold Bq at e;cases fr
   · exact hXd c l e
   · cases e;decide
 have hp:Cz 46 [] (Bq fr F++X)=(X,true):=by
   cases fr
   · show Cz 46 [] X=(X,true)
     cases hx:X with
     | nil=>rfl
     | cons c l=>
       have:=exp_head hX c l hx;subst this;exact Dy (by decide)
   · show Cz 46 [] (46 :: (F++X))=(X,true)
     rw [Ct,Fp,nD_app hFd hXd,List.drop_left,decide_eq_true (List.length_pos_iff.2 (hF rfl))]
 unfold A0
 dsimp only
 rw [ha,hn,List.drop_left,hp]
 dsimp only
 rw [part_exp hX,decide_eq_true (List.length_pos_iff.2 hA)]
 rfl
theorem NumT.right {s:ByteArray} {neg d:Bool} {r m:Nat} {L:List UInt8} {x:Int} (h:NumT s neg r d L m x):A0 s.data.toList=true:=by
 obtain ⟨A,F,X,fr,y,hs,hA,hAd,hF,hFd,hX⟩:=h.parts;rw [hs];exact right_form neg hA hAd hF hFd hX
def Bo (st:Nat) (c:UInt8):Option Nat:=
 if st=0/\c.toNat=45 then some 1
 else if st<=1/\isD c then some 2
 else if (st=2\/st=4\/st=7)/\isD c then some st
 else if st=2/\c.toNat=46 then some 3
 else if st=3/\isD c then some 4
 else if (st=2\/st=4)/\c.toNat=101 then some 5
 else if st=5/\(c.toNat=43\/c.toNat=45) then some 6
 else if (st=5\/st=6)/\isD c then some 7
 else none
def endF (st:Nat):Bool:=st == 2 || st == 4 || st == 7
def runF:Nat->List UInt8->Bool
 | st,[]=>endF st
 | st,c :: l=>match Bo st c with
   | none=>false
   | some t=>runF t l
theorem Bs {st:Nat} {c:UInt8} {l:List UInt8}:runF st (c :: l)=match Bo st c with | none=>false | some t=>runF t l:=by rw [runF]
theorem Gq {c:UInt8} {l:List UInt8} (h:isD c=true):nD (c :: l)=nD l+1:=by unfold nD;rw [List.takeWhile_cons,if_pos h];rfl
theorem nD_no {c:UInt8} {l:List UInt8} (h:isD c=false):nD (c :: l)=0:=by unfold nD;rw [List.takeWhile_cons,if_neg (by rw [h];decide)];rfl
def Fj (l:List UInt8):Bool:=(l.drop (nD l)).isEmpty
theorem tailF_yes {c:UInt8} {l:List UInt8} (h:isD c=true):Fj (c :: l)=Fj l:=by unfold Fj;rw [Gq h,List.drop_succ_cons]
theorem tailF_no {c:UInt8} {l:List UInt8} (h:isD c=false):Fj (c :: l)=false:=by unfold Fj;rw [nD_no h];rfl
theorem run7:∀l:List UInt8,runF 7 l=Fj l
 | []=>rfl
 | c :: l=>by
   rw [Bs];cases h:isD c
   · rw [tailF_no h];simp [Bo,h]
   · rw [tailF_yes h,<-run7 l];simp [Bo,h]
theorem run6 (l:List UInt8):runF 6 l=(decide (0<nD l) && Fj l):=by
 cases l with
 | nil=>rfl
 | cons c l=>
   rw [Bs];cases h:isD c
   · rw [nD_no h];simp [Bo,h]
   · rw [Gq h,tailF_yes h,<-run7 l];simp [Bo,h]
theorem run5 (l:List UInt8):runF 5 l=(decide (0<nD (Ay [43,45] l)) && Fj (Ay [43,45] l)):=by
 cases l with
 | nil=>rfl
 | cons c l=>
   rw [Bs];by_cases hs:c.toNat=43\/c.toNat=45
   · have hm:c∈([43,45]:List UInt8):=by
       rcases hs with hs | hs
       · rw [UInt8.toNat_inj.1 (show c.toNat=(43:UInt8).toNat from hs)];decide
       · rw [UInt8.toNat_inj.1 (show c.toNat=(45:UInt8).toNat from hs)];decide
     rw [Bl hm,<-run6];simp [Bo,hs]
   · have hm:¬c∈([43,45]:List UInt8):=by
       intro hm;rcases List.mem_cons.1 hm with h | h
       · exact hs (.inl (by rw [h];rfl))
       · rw [List.mem_singleton] at h
         exact hs (.inr (by rw [h];rfl))
     rw [Ca hm,<-run6,Bs];simp [Bo,hs]
def expO (l:List UInt8):Bool:=(Cz 101 [43,45] l).2 && (Cz 101 [43,45] l).1.isEmpty
theorem expO_e (l:List UInt8):expO (101 :: l)=runF 5 l:=by unfold expO;rw [Ct,run5];rfl
theorem expO_no {c:UInt8} {l:List UInt8} (h:c.toNat≠101):expO (c :: l)=false:=by
 unfold expO;rw [Dy (fun e=>h (by rw [e];rfl))];rfl
theorem run4:∀l:List UInt8,runF 4 l=expO (l.drop (nD l))
 | []=>rfl
 | c :: l=>by
   rw [Bs];cases h:isD c
   · rw [nD_no h,List.drop_zero]
     by_cases he:c.toNat=101
     · have:c=101:=UInt8.toNat_inj.1 he
       subst this;rw [expO_e];simp [Bo,h]
     · rw [expO_no he];simp [Bo,h,he]
   · rw [Gq h,List.drop_succ_cons,<-run4 l];simp [Bo,h]
theorem run3 (l:List UInt8):runF 3 l=(decide (0<nD l) && expO (l.drop (nD l))):=by
 cases l with
 | nil=>rfl
 | cons c l=>
   rw [Bs];cases h:isD c
   · rw [nD_no h];simp [Bo,h]
   · rw [Gq h,List.drop_succ_cons,<-run4 l];simp [Bo,h]
def Ge (l:List UInt8):Bool:=(Cz 46 [] l).2 && expO (Cz 46 [] l).1
theorem run2:∀l:List UInt8,runF 2 l=Ge (l.drop (nD l))
 | []=>rfl
 | c :: l=>by
   rw [Bs];cases h:isD c
   · rw [nD_no h,List.drop_zero]
     by_cases h46:c.toNat=46
     · have:c=46:=UInt8.toNat_inj.1 h46
       subst this;unfold Ge;rw [Ct,Fp,<-run3];simp [Bo,h]
     · unfold Ge
       rw [Dy (fun e=>h46 (by rw [e];rfl)),Bool.true_and];by_cases he:c.toNat=101
       · have:c=101:=UInt8.toNat_inj.1 he
         subst this;rw [expO_e];simp [Bo,h]
       · rw [expO_no he];simp [Bo,h,h46,he]
   · rw [Gq h,List.drop_succ_cons,<-run2 l];simp [Bo,h]
theorem run1 (l:List UInt8):runF 1 l=(decide (0<nD l) && Ge (l.drop (nD l))):=by
 cases l with
 | nil=>rfl
 | cons c l=>
   rw [Bs];cases h:isD c
   · rw [nD_no h];simp [Bo,h]
   · rw [Gq h,List.drop_succ_cons,<-run2 l];simp [Bo,h]
theorem form_right (l:List UInt8):runF 0 l=A0 l:=by
 have key:A0 l=(decide (0<nD (Ay [45] l)) && Ge ((Ay [45] l).drop (nD (Ay [45] l)))):=by
   unfold A0 Ge expO;dsimp only;simp only [Bool.and_assoc]
 rw [key,<-run1];cases l with
 | nil=>rfl
 | cons c l=>
   rw [Bs];by_cases h:c.toNat=45
   · have:c=45:=UInt8.toNat_inj.1 h
     subst this;rw [Bl (by decide)];simp [Bo]
   · have hm:¬c∈([45]:List UInt8):=by
       intro hm;rw [List.mem_singleton] at hm;exact h (by rw [hm];rfl)
     rw [Ca hm,Bs];simp [Bo,h]
theorem nD_split (l:List UInt8):l=l.take (nD l)++l.drop (nD l)/\(l.take (nD l)).length=nD l/\(∀c∈l.take (nD l),isD c=true):=by
 refine ⟨(List.take_append_drop _ _).symm,by rw [List.length_take];have:=nD_le l;omega,fun c hc=>?_⟩;obtain ⟨i,hi,e⟩:=List.getElem_of_mem hc;rw [List.length_take] at hi;rw [List.getElem_take] at e;exact nD_at l i c (by omega) (by rw [<-e];exact List.getElem?_eq_getElem _)
theorem tail_dig {l:List UInt8} (h:decide (0<nD l)=true) (ht:Fj l=true):l≠[]/\∀c∈l,isD c=true:=by
 obtain ⟨h1,h2,h3⟩:=nD_split l;unfold Fj at ht;have h4:l.drop (nD l)=[]:=List.isEmpty_iff.1 ht;rw [h4,List.append_nil] at h1;have h0:=of_decide_eq_true h;refine ⟨fun e=>?_,fun c hc=>h3 c (by rw [<-h1];exact hc)⟩;rw [e] at h0;exact absurd h0 (by decide)
theorem exp_parts {l:List UInt8} (h:expO l=true):∃x,ExpAt l x:=by
 cases l with
 | nil=>exact ⟨_,.none⟩
 | cons c l=>
   by_cases he:c.toNat=101
   · have:c=101:=UInt8.toNat_inj.1 he
     subst this;rw [expO_e,run5,Bool.and_eq_true] at h;cases l with
     | nil=>exact absurd h.1 (by decide)
     | cons a r=>
       by_cases h1:a=43
       · subst h1
         rw [Bl (by decide)] at h;obtain ⟨a1,a2⟩:=tail_dig h.1 h.2;exact ⟨_,.plus a1 a2⟩
       · by_cases h2:a=45
         · subst h2
           rw [Bl (by decide)] at h;obtain ⟨a1,a2⟩:=tail_dig h.1 h.2;exact ⟨_,.minus a1 a2⟩
         · rw [Ca (by simp [h1,h2])] at h
           obtain ⟨a1,a2⟩:=tail_dig h.1 h.2;exact ⟨_,.bare a1 a2⟩
   · rw [expO_no he] at h;cases h
theorem right_parts {l:List UInt8} (h:A0 l=true):∃neg A F X fr x,l=At neg++(A++(Bq fr F++X))/\A≠[]/\(∀c∈A,isD c=true)/\(fr=false->F=[])/\(∀c∈F,isD c=true)/\ExpAt X x:=by
 have key:A0 l=(decide (0<nD (Ay [45] l)) && Ge ((Ay [45] l).drop (nD (Ay [45] l)))):=by
   unfold A0 Ge expO;dsimp only;simp only [Bool.and_assoc]
 rw [key,Bool.and_eq_true] at h;have hneg:∃neg,l=At neg++Ay [45] l:=by
   cases l with
   | nil=>exact ⟨false,rfl⟩
   | cons c l=>
     by_cases e:c=45
     · subst e;exact ⟨true,by rw [Bl (by decide)];rfl⟩
     · exact ⟨false,by rw [Ca (by simp [e])];rfl⟩
 obtain ⟨neg,hneg⟩:=hneg;generalize Ay [45] l=a at *;obtain ⟨h1,h2,h3⟩:=nD_split a;have h0:=of_decide_eq_true h.1;have hf:=h.2;clear key h;generalize a.take (nD a)=A at h1 h2 h3;generalize a.drop (nD a)=R at h1 hf;have hA:A≠[]:=fun e=>by rw [e] at h2;simp at h2;omega
 unfold Ge at hf;rw [Bool.and_eq_true] at hf;cases R with
 | nil=>exact ⟨neg,A,[],[],false,0,by rw [hneg,h1];rfl,hA,h3,fun _=>rfl,fun _ hc=>(by cases hc),.none⟩
 | cons c r=>
   by_cases e:c=46
   · subst e
     rw [Ct,Fp] at hf;obtain ⟨g1,g2,g3⟩:=nD_split r;obtain ⟨x,hX⟩:=exp_parts hf.2;refine ⟨neg,A,r.take (nD r),r.drop (nD r),true,x,?_,hA,h3,fun h=>(by cases h),g3,hX⟩;rw [hneg,h1];show _=At neg++(_++(46 :: r.take (nD r)++r.drop (nD r)));rw [List.cons_append,<-g1]
   · rw [Dy e] at hf
     obtain ⟨x,hX⟩:=exp_parts hf.2;exact ⟨neg,A,[],c :: r,false,x,by rw [hneg,h1];rfl,hA,h3,fun _=>rfl,fun _ hc=>(by cases hc),hX⟩
theorem right_txt {s:ByteArray} (h:A0 s.data.toList=true) (hz:s.size<=1000):∃neg d L m x,FTxt s neg d L m x/\∃c l,s.data.toList=(if neg then [45] else [])++c :: l/\isD c=true:=by
 obtain ⟨neg,A,F,X,fr,x,hs,hA,hAd,hF,hFd,hX⟩:=right_parts h;exact ⟨neg,fr,_,_,x,txt_form hs hz hA hAd hF hFd hX⟩
end Go.Proofs.YteoalcmhdoopnaaGreatDoor
