/- Fields in the order of their names, as lists: what is looked up, put and dropped. No program in sight. -/
import Derived.Test.YteoalcmhdoopnaaGreatDoorBase
import Derived.Lib.Bytealg
namespace Go.Proofs.YteoalcmhdoopnaaGreatDoor
open Go.RowKit
theorem cmp_self:∀(a:List UInt8),Lib.compareBytes a a=0
 | []=>rfl
 | x :: a=>by
   unfold Lib.compareBytes;rw [if_neg (by simp [UInt8.lt_iff_toNat_lt]),if_neg (by simp [UInt8.lt_iff_toNat_lt])];exact cmp_self a
theorem cmp_zero:∀{a b:List UInt8},Lib.compareBytes a b=0->a=b
 | [],[],_=>rfl
 | [],_ :: _,h=>by simp [Lib.compareBytes] at h
 | _ :: _,[],h=>by simp [Lib.compareBytes] at h
 | x :: a,y :: b,h=>by
   unfold Lib.compareBytes at h;split at h
   · simp at h
   · split at h
     · simp at h
     · rename_i h1 h2
       have e:x=y:=UInt8.toNat_inj.1 (by rw [UInt8.lt_iff_toNat_lt] at h1 h2;omega);rw [e,cmp_zero h]
theorem cmp_neg:∀(a b:List UInt8),Lib.compareBytes a b=-Lib.compareBytes b a
 | [],[]=>by simp [Lib.compareBytes]
 | [],_ :: _=>by simp [Lib.compareBytes]
 | _ :: _,[]=>by simp [Lib.compareBytes]
 | x :: a,y :: b=>by
   unfold Lib.compareBytes;by_cases h1:x<y
   · rw [if_pos h1,if_neg (by rw [UInt8.lt_iff_toNat_lt] at h1 ⊢;omega),if_pos h1]
   · by_cases h2:y<x
     · rw [if_neg h1,if_pos h2,if_pos h2];rfl
     · rw [if_neg h1,if_neg h2,if_neg h2,if_neg h1];exact cmp_neg a b
theorem Bu:∀{a b c:List UInt8},Lib.compareBytes a b<0->Lib.compareBytes b c<0->Lib.compareBytes a c<0
 | [],[],_,h,_=>by simp [Lib.compareBytes] at h
 | [],_ :: _,[],_,h=>by simp [Lib.compareBytes] at h
 | [],_ :: _,_ :: _,_,_=>by simp [Lib.compareBytes]
 | _ :: _,[],_,h,_=>by simp [Lib.compareBytes] at h
 | _ :: _,_ :: _,[],_,h=>by simp [Lib.compareBytes] at h
 | x :: a,y :: b,z :: c,h1,h2=>by
   unfold Lib.compareBytes at h1 h2 ⊢;simp only [UInt8.lt_iff_toNat_lt] at h1 h2 ⊢;by_cases p1:x.toNat<y.toNat
   · by_cases p2:y.toNat<z.toNat
     · rw [if_pos (by omega)];omega
     · rw [if_neg p2] at h2
       by_cases p3:z.toNat<y.toNat
       · rw [if_pos p3] at h2;omega
       · rw [if_pos (by omega)];omega
   · rw [if_neg p1] at h1
     by_cases p4:y.toNat<x.toNat
     · rw [if_pos p4] at h1;omega
     · rw [if_neg p4] at h1
       by_cases p2:y.toNat<z.toNat
       · rw [if_pos (by omega)];omega
       · rw [if_neg p2] at h2
         by_cases p3:z.toNat<y.toNat
         · rw [if_pos p3] at h2;omega
         · rw [if_neg p3] at h2
           rw [if_neg (by omega),if_neg (by omega)];exact Bu h1 h2
def cmpB (a b:ByteArray):Int:=Lib.compareBytes a.data.toList b.data.toList
theorem Ar (a:ByteArray):cmpB a a=0:=cmp_self _
theorem cmpB_zero {a b:ByteArray}:cmpB a b=0 ↔ a=b:=by
 constructor
 · intro h
   have:=cmp_zero h;cases a;cases b
   simp only [ByteArray.mk.injEq];exact Array.toList_inj.1 this
 · rintro rfl;exact Ar a
theorem cmpB_neg (a b:ByteArray):cmpB a b=-cmpB b a:=cmp_neg _ _
theorem As {a b c:ByteArray} (h:cmpB a b<0) (k:cmpB b c<0):cmpB a c<0:=Bu h k
abbrev Fld:=ByteArray × ByteArray
def fcells (f:Fld):List Value:=[.string f.1,.string f.2]
def Srt (fs:List Fld):Prop:=fs.Pairwise fun x y=>cmpB x.1 y.1<0
def lbF (fs:List Fld) (name:ByteArray):Nat:=(fs.takeWhile fun f=>decide (cmpB f.1 name<0)).length
def hasF (fs:List Fld) (name:ByteArray):Bool:=fs.any fun f=>decide (f.1=name)
def getF (fs:List Fld) (name:ByteArray):Option ByteArray:=(fs.find? fun f=>decide (f.1=name)).map (·.2)
def putF (fs:List Fld) (name text:ByteArray):List Fld:=fs.take (lbF fs name)++(name,text) :: fs.drop (lbF fs name+if hasF fs name then 1 else 0)
theorem lbF_le (fs:List Fld) (name:ByteArray):lbF fs name<=fs.length:=(List.takeWhile_sublist _).length_le
theorem lbF_cons (f:Fld) (fs:List Fld) (name:ByteArray):lbF (f :: fs) name=if cmpB f.1 name<0 then lbF fs name+1 else 0:=by
 unfold lbF;rw [List.takeWhile_cons];by_cases h:cmpB f.1 name<0<;>simp [h]
theorem lbF_lt:∀{fs:List Fld} {name:ByteArray} {k:Nat} (hk:k<fs.length),k<lbF fs name->cmpB fs[k].1 name<0
 | [],_,_,hk,_=>absurd hk (by simp)
 | f :: fs,name,k,hk,h=>by
   rw [lbF_cons] at h;by_cases hf:cmpB f.1 name<0
   · rw [if_pos hf] at h
     cases k with
     | zero=>exact hf
     | succ k=>exact lbF_lt (fs:=fs) (by simpa using hk) (by omega)
   · rw [if_neg hf] at h;omega
theorem Srt.tail {f:Fld} {fs:List Fld} (h:Srt (f :: fs)):Srt fs:=(List.pairwise_cons.1 h).2
theorem Srt.head {f:Fld} {fs:List Fld} (h:Srt (f :: fs)):∀g∈fs,cmpB f.1 g.1<0:=(List.pairwise_cons.1 h).1
theorem lbF_ge:∀{fs:List Fld} {name:ByteArray},Srt fs->∀{k:Nat} (hk:k<fs.length),lbF fs name<=k->¬cmpB fs[k].1 name<0
 | [],_,_,_,hk,_=>absurd hk (by simp)
 | f :: fs,name,hs,k,hk,h=>by
   rw [lbF_cons] at h;by_cases hf:cmpB f.1 name<0
   · rw [if_pos hf] at h
     cases k with
     | zero=>omega
     | succ k=>exact lbF_ge (fs:=fs) hs.tail (by simpa using hk) (by omega)
   · cases k with
     | zero=>exact hf
     | succ k=>
       intro hk2;have hk9:k<fs.length:=by simpa using hk
       have h1:=hs.head fs[k] (List.getElem_mem hk9);exact hf (As h1 hk2)
theorem lbF_of {fs:List Fld} {name:ByteArray} (hs:Srt fs) {i:Nat} (hi:i<=fs.length) (h1:∀k (hk:k<fs.length),k<i->cmpB fs[k].1 name<0) (h2:∀k (hk:k<fs.length),i<=k->¬cmpB fs[k].1 name<0):i=lbF fs name:=by
 have hl:=lbF_le fs name;rcases Nat.lt_trichotomy i (lbF fs name) with h | h | h
 · exact absurd (lbF_lt (by omega) h) (h2 i (by omega) (Nat.le_refl _))
 · exact h
 · exact absurd (h1 (lbF fs name) (by omega) h) (lbF_ge hs (by omega) (Nat.le_refl _))
theorem hasF_iff {fs:List Fld} {name:ByteArray}:hasF fs name=true ↔ ∃(k:Nat) (hk:k<fs.length),fs[k].1=name:=by
 unfold hasF;rw [List.any_eq_true];constructor
 · rintro ⟨f,hf,he⟩
   obtain ⟨k,hk,rfl⟩:=List.getElem_of_mem hf;exact ⟨k,hk,by simpa using he⟩
 · rintro ⟨k,hk,he⟩
   exact ⟨fs[k],List.getElem_mem hk,by simpa using he⟩
theorem at_lbF {fs:List Fld} {name:ByteArray} (hs:Srt fs) {k:Nat} (hk:k<fs.length) (h:fs[k].1=name):k=lbF fs name:=by
 refine (lbF_of hs (by omega) (fun j hj hjk=>?_) (fun j hj hkj=>?_))
 · rw [<-h]
   exact List.pairwise_iff_getElem.1 hs j k hj hk hjk
 · rw [<-h]
   rcases Nat.lt_or_ge k j with h9 | h9
   · have:=List.pairwise_iff_getElem.1 hs k j hk hj h9
     rw [cmpB_neg];omega
   · obtain rfl:j=k:=by omega
     rw [Ar];omega
theorem Be {fs:List Fld} {name:ByteArray} (hs:Srt fs):hasF fs name=true ↔ ∃hk:lbF fs name<fs.length,fs[lbF fs name].1=name:=by
 rw [hasF_iff];constructor
 · rintro ⟨k,hk,he⟩
   have:=at_lbF hs hk he;subst this;exact ⟨hk,he⟩
 · rintro ⟨hk,he⟩;exact ⟨_,hk,he⟩
theorem getF_at {fs:List Fld} {name:ByteArray} (hs:Srt fs) (hk:lbF fs name<fs.length) (he:fs[lbF fs name].1=name):getF fs name=some fs[lbF fs name].2:=by
 unfold getF;cases hf:fs.find? (fun f=>decide (f.1=name)) with
 | none=>
   rw [List.find?_eq_none] at hf;exact absurd he (by simpa using hf _ (List.getElem_mem hk))
 | some g=>
   have h1:=List.find?_some hf;have h2:=List.mem_of_find?_eq_some hf;obtain ⟨j,hj,rfl⟩:=List.getElem_of_mem h2;have:=at_lbF hs hj (by simpa using h1);subst this;rfl
theorem getF_none {fs:List Fld} {name:ByteArray} (h:hasF fs name=false):getF fs name=none:=by
 unfold getF;rw [Option.map_eq_none_iff,List.find?_eq_none];intro f hf he;unfold hasF at h;rw [List.any_eq_false] at h;exact h f hf he
theorem hasF_getF (fs:List Fld) (name:ByteArray):(getF fs name).isSome=hasF fs name:=by
 cases h:hasF fs name with
 | false=>rw [getF_none h];rfl
 | true=>
   unfold getF;rw [Option.isSome_map,List.find?_isSome];unfold hasF at h;rw [List.any_eq_true] at h;exact h
theorem getF_iff {fs:List Fld} (hs:Srt fs) {name text:ByteArray}:getF fs name=some text ↔ (name,text)∈fs:=by
 constructor
 · intro h
   have h1:hasF fs name=true:=by rw [<-hasF_getF,h];rfl
   obtain ⟨hk,he⟩:=(Be hs).1 h1;rw [getF_at hs hk he] at h;have:fs[lbF fs name]=(name,text):=Prod.ext he (by simpa using h);rw [<-this];exact List.getElem_mem hk
 · intro h
   obtain ⟨k,hk,e⟩:=List.getElem_of_mem h;have h1:=at_lbF hs hk (name:=name) (by rw [e]);subst h1;rw [getF_at hs hk (by rw [e]),e]
theorem Srt.ext:∀{a b:List Fld},Srt a->Srt b->(∀name,getF a name=getF b name)->a=b:=by
 intro a b ha hb h;have hm:∀f:Fld,f∈a ↔ f∈b:=fun ⟨n,t⟩=>by rw [<-getF_iff ha,<-getF_iff hb,h]
 clear h;induction a generalizing b with
 | nil=>
   cases b with
   | nil=>rfl
   | cons y b=>exact absurd ((hm y).2 (by simp)) (by simp)
 | cons x a ih=>
   cases b with
   | nil=>exact absurd ((hm x).1 (by simp)) (by simp)
   | cons y b=>
     have hxy:x=y:=by
       rcases List.mem_cons.1 ((hm x).1 (by simp)) with h | h
       · exact h
       · rcases List.mem_cons.1 ((hm y).2 (by simp)) with h' | h'
         · exact h'.symm
         · have h1:=hb.head x h
           have h2:=ha.head y h';have:=As h1 h2;rw [Ar] at this;omega
     subst hxy;rw [ih ha.tail hb.tail (fun f=>?_)];have hxa:x ∉ a:=fun h=>by have:=ha.head x h;rw [Ar] at this;omega
     have hxb:x ∉ b:=fun h=>by have:=hb.head x h;rw [Ar] at this;omega
     constructor
     · intro hf
       rcases List.mem_cons.1 ((hm f).1 (List.mem_cons_of_mem _ hf)) with h | h
       · subst h;exact absurd hf hxa
       · exact h
     · intro hf
       rcases List.mem_cons.1 ((hm f).2 (List.mem_cons_of_mem _ hf)) with h | h
       · subst h;exact absurd hf hxb
       · exact h
end Go.Proofs.YteoalcmhdoopnaaGreatDoor
