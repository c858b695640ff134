/- Fields in the order of their names, as lists: what is looked up, put and dropped. No program in sight. -/
import Derived.Test.YteoalcmhdoopnaaGreatDoorBase
import Derived.Lib.Bytealg
import Derived.Test.YteoalcmhdoopnaaGreatDoorJ12
import Derived.Test.YteoalcmhdoopnaaGreatDoorQuiet
import Derived.Laws.StructEq
import Derived.Laws.Cover1
import Derived.Deep.DeepCutAuto
import Derived.IntWalk
namespace Go.Proofs.YteoalcmhdoopnaaGreatDoor
open Go.RowKit
theorem cmp_self:∀(a:List UInt8),Lib.compareBytes a a=0
 | []=>rfl
 | x :: a=>by
   unfold Lib.compareBytes;rw [if_neg (by simp [UInt8.lt_iff_toNat_lt]),if_neg (by simp [UInt8.lt_iff_toNat_lt])];exact cmp_self a
theorem cmp_neg:∀(a b:List UInt8),Lib.compareBytes a b=-Lib.compareBytes b a
 | [],[]=>by simp [Lib.compareBytes]
 | [],_ :: _=>by simp [Lib.compareBytes]
 | _ :: _,[]=>by simp [Lib.compareBytes]
 | x :: a,y :: b=>by
   unfold Lib.compareBytes;by_cases h1:x<y
   · rw [if_pos h1,if_neg (by rw [UInt8.lt_iff_toNat_lt] at h1 ⊢;omega),if_pos h1]
   · by_cases h2:y<x
     · rw [if_neg h1,if_pos h2,if_pos h2];rfl
     · rw [if_neg h1,if_neg h2,if_neg h2,if_neg h1];exact cmp_neg a b
theorem cmp_trans:∀{a b c:List UInt8},Lib.compareBytes a b<0->Lib.compareBytes b c<0->Lib.compareBytes a c<0
 | [],[],_,h,_=>by simp [Lib.compareBytes] at h
 | [],_ :: _,[],_,h=>by simp [Lib.compareBytes] at h
 | [],_ :: _,_ :: _,_,_=>by simp [Lib.compareBytes]
 | _ :: _,[],_,h,_=>by simp [Lib.compareBytes] at h
 | _ :: _,_ :: _,[],_,h=>by simp [Lib.compareBytes] at h
 | x :: a,y :: b,z :: c,h1,h2=>by
   unfold Lib.compareBytes at h1 h2 ⊢;simp only [UInt8.lt_iff_toNat_lt] at h1 h2 ⊢;by_cases p1:x.toNat<y.toNat
   · by_cases p2:y.toNat<z.toNat
     · rw [if_pos (by omega)];omega
     · rw [if_neg p2] at h2
       by_cases p3:z.toNat<y.toNat
       · rw [if_pos p3] at h2;omega
       · rw [if_pos (by omega)];omega
   · rw [if_neg p1] at h1
     by_cases p4:y.toNat<x.toNat
     · rw [if_pos p4] at h1;omega
     · rw [if_neg p4] at h1
       by_cases p2:y.toNat<z.toNat
       · rw [if_pos (by omega)];omega
       · rw [if_neg p2] at h2
         by_cases p3:z.toNat<y.toNat
         · rw [if_pos p3] at h2;omega
         · rw [if_neg p3] at h2
           rw [if_neg (by omega),if_neg (by omega)];exact cmp_trans h1 h2
def cmpB (a b:ByteArray):Int:=Lib.compareBytes a.data.toList b.data.toList
theorem Ez (a:ByteArray):cmpB a a=0:=cmp_self _
theorem cmpB_neg (a b:ByteArray):cmpB a b=-cmpB b a:=cmp_neg _ _
theorem cmpB_trans {a b c:ByteArray} (h:cmpB a b<0) (k:cmpB b c<0):cmpB a c<0:=cmp_trans h k
abbrev Fld:=ByteArray × ByteArray
def fcells (f:Fld):List Value:=[.string f.1,.string f.2]
def Srt (fs:List Fld):Prop:=fs.Pairwise fun x y=>cmpB x.1 y.1<0
def lbF (fs:List Fld) (name:ByteArray):Nat:=(fs.takeWhile fun f=>decide (cmpB f.1 name<0)).length
def hasF (fs:List Fld) (name:ByteArray):Bool:=fs.any fun f=>decide (f.1=name)
def getF (fs:List Fld) (name:ByteArray):Option ByteArray:=(fs.find? fun f=>decide (f.1=name)).map (·.2)
theorem lbF_le (fs:List Fld) (name:ByteArray):lbF fs name<=fs.length:=(List.takeWhile_sublist _).length_le
theorem lbF_cons (f:Fld) (fs:List Fld) (name:ByteArray):lbF (f :: fs) name=if cmpB f.1 name<0 then lbF fs name+1 else 0:=by
 unfold lbF;rw [List.takeWhile_cons];by_cases h:cmpB f.1 name<0<;>simp [h]
theorem lbF_lt:∀{fs:List Fld} {name:ByteArray} {k:Nat} (hk:k<fs.length),k<lbF fs name->cmpB fs[k].1 name<0
 | [],_,_,hk,_=>absurd hk (by simp)
 | f :: fs,name,k,hk,h=>by
   rw [lbF_cons] at h;by_cases hf:cmpB f.1 name<0
   · rw [if_pos hf] at h
     cases k with
     | zero=>exact hf
     | succ k=>exact lbF_lt (fs:=fs) (by simpa using hk) (by omega)
   · rw [if_neg hf] at h;omega
theorem Srt.tail {f:Fld} {fs:List Fld} (h:Srt (f :: fs)):Srt fs:=(List.pairwise_cons.1 h).2
theorem Srt.head {f:Fld} {fs:List Fld} (h:Srt (f :: fs)):∀g∈fs,cmpB f.1 g.1<0:=(List.pairwise_cons.1 h).1
theorem lbF_ge:∀{fs:List Fld} {name:ByteArray},Srt fs->∀{k:Nat} (hk:k<fs.length),lbF fs name<=k->¬cmpB fs[k].1 name<0
 | [],_,_,_,hk,_=>absurd hk (by simp)
 | f :: fs,name,hs,k,hk,h=>by
   rw [lbF_cons] at h;by_cases hf:cmpB f.1 name<0
   · rw [if_pos hf] at h
     cases k with
     | zero=>omega
     | succ k=>exact lbF_ge (fs:=fs) hs.tail (by simpa using hk) (by omega)
   · cases k with
     | zero=>exact hf
     | succ k=>
       intro hk2;have hk9:k<fs.length:=by simpa using hk
       have h1:=hs.head fs[k] (List.getElem_mem hk9);exact hf (cmpB_trans h1 hk2)
theorem lbF_of {fs:List Fld} {name:ByteArray} (hs:Srt fs) {i:Nat} (hi:i<=fs.length) (h1:∀k (hk:k<fs.length),k<i->cmpB fs[k].1 name<0) (h2:∀k (hk:k<fs.length),i<=k->¬cmpB fs[k].1 name<0):i=lbF fs name:=by
 have hl:=lbF_le fs name;rcases Nat.lt_trichotomy i (lbF fs name) with h | h | h
 · exact absurd (lbF_lt (by omega) h) (h2 i (by omega) (Nat.le_refl _))
 · exact h
 · exact absurd (h1 (lbF fs name) (by omega) h) (lbF_ge hs (by omega) (Nat.le_refl _))
theorem hasF_iff {fs:List Fld} {name:ByteArray}:hasF fs name=true ↔ ∃(k:Nat) (hk:k<fs.length),fs[k].1=name:=by
 unfold hasF;rw [List.any_eq_true];constructor
 · rintro ⟨f,hf,he⟩
   obtain ⟨k,hk,rfl⟩:=List.getElem_of_mem hf;exact ⟨k,hk,by simpa using he⟩
 · rintro ⟨k,hk,he⟩
   exact ⟨fs[k],List.getElem_mem hk,by simpa using he⟩
theorem at_lbF {fs:List Fld} {name:ByteArray} (hs:Srt fs) {k:Nat} (hk:k<fs.length) (h:fs[k].1=name):k=lbF fs name:=by
 refine (lbF_of hs (by omega) (fun j hj hjk=>?_) (fun j hj hkj=>?_))
 · rw [<-h]
   exact List.pairwise_iff_getElem.1 hs j k hj hk hjk
 · rw [<-h]
   rcases Nat.lt_or_ge k j with h9 | h9
   · have:=List.pairwise_iff_getElem.1 hs k j hk hj h9
     rw [cmpB_neg];omega
   · obtain rfl:j=k:=by omega
     rw [Ez];omega
theorem hasF_at {fs:List Fld} {name:ByteArray} (hs:Srt fs):hasF fs name=true ↔ ∃hk:lbF fs name<fs.length,fs[lbF fs name].1=name:=by
 rw [hasF_iff];constructor
 · rintro ⟨k,hk,he⟩
   have:=at_lbF hs hk he;subst this;exact ⟨hk,he⟩
 · rintro ⟨hk,he⟩;exact ⟨_,hk,he⟩
theorem getF_at {fs:List Fld} {name:ByteArray} (hs:Srt fs) (hk:lbF fs name<fs.length) (he:fs[lbF fs name].1=name):getF fs name=some fs[lbF fs name].2:=by
 unfold getF;cases hf:fs.find? (fun f=>decide (f.1=name)) with
 | none=>
   rw [List.find?_eq_none] at hf;exact absurd he (by simpa using hf _ (List.getElem_mem hk))
 | some g=>
   have h1:=List.find?_some hf;have h2:=List.mem_of_find?_eq_some hf;obtain ⟨j,hj,rfl⟩:=List.getElem_of_mem h2;have:=at_lbF hs hj (by simpa using h1);subst this;rfl
theorem getF_none {fs:List Fld} {name:ByteArray} (h:hasF fs name=false):getF fs name=none:=by
 unfold getF;rw [Option.map_eq_none_iff,List.find?_eq_none];intro f hf he;unfold hasF at h;rw [List.any_eq_false] at h;exact h f hf he
theorem hasF_getF (fs:List Fld) (name:ByteArray):(getF fs name).isSome=hasF fs name:=by
 cases h:hasF fs name with
 | false=>rw [getF_none h];rfl
 | true=>
   unfold getF;rw [Option.isSome_map,List.find?_isSome];unfold hasF at h;rw [List.any_eq_true] at h;exact h
theorem getF_iff {fs:List Fld} (hs:Srt fs) {name text:ByteArray}:getF fs name=some text ↔ (name,text)∈fs:=by
 constructor
 · intro h
   have h1:hasF fs name=true:=by rw [<-hasF_getF,h];rfl
   obtain ⟨hk,he⟩:=(hasF_at hs).1 h1;rw [getF_at hs hk he] at h;have:fs[lbF fs name]=(name,text):=Prod.ext he (by simpa using h);rw [<-this];exact List.getElem_mem hk
 · intro h
   obtain ⟨k,hk,e⟩:=List.getElem_of_mem h;have h1:=at_lbF hs hk (name:=name) (by rw [e]);subst h1;rw [getF_at hs hk (by rw [e]),e]
theorem Srt.ext:∀{a b:List Fld},Srt a->Srt b->(∀name,getF a name=getF b name)->a=b:=by
 intro a b ha hb h;have hm:∀f:Fld,f∈a ↔ f∈b:=fun ⟨n,t⟩=>by rw [<-getF_iff ha,<-getF_iff hb,h]
 clear h;induction a generalizing b with
 | nil=>
   cases b with
   | nil=>rfl
   | cons y b=>exact absurd ((hm y).2 (by simp)) (by simp)
 | cons x a ih=>
   cases b with
   | nil=>exact absurd ((hm x).1 (by simp)) (by simp)
   | cons y b=>
     have hxy:x=y:=by
       rcases List.mem_cons.1 ((hm x).1 (by simp)) with h | h
       · exact h
       · rcases List.mem_cons.1 ((hm y).2 (by simp)) with h' | h'
         · exact h'.symm
         · have h1:=hb.head x h
           have h2:=ha.head y h';have:=cmpB_trans h1 h2;rw [Ez] at this;omega
     subst hxy;rw [ih ha.tail hb.tail (fun f=>?_)];have hxa:x ∉ a:=fun h=>by have:=ha.head x h;rw [Ez] at this;omega
     have hxb:x ∉ b:=fun h=>by have:=hb.head x h;rw [Ez] at this;omega
     constructor
     · intro hf
       rcases List.mem_cons.1 ((hm f).1 (List.mem_cons_of_mem _ hf)) with h | h
       · subst h;exact absurd hf hxa
       · exact h
     · intro hf
       rcases List.mem_cons.1 ((hm f).2 (List.mem_cons_of_mem _ hf)) with h | h
       · subst h;exact absurd hf hxb
       · exact h
def flds (fs:List Fld):List Value:=fs.flatMap fcells
theorem flds_cons (f:Fld) (fs:List Fld):flds (f :: fs)=.string f.1 :: .string f.2 :: flds fs:=rfl
theorem flds_len:∀(fs:List Fld),(flds fs).length=fs.length * 2
 | []=>rfl
 | f :: fs=>by rw [flds_cons,List.length_cons,List.length_cons,flds_len fs,List.length_cons];omega
theorem flds_get:∀{fs:List Fld} {j:Nat} {f:Fld},fs[j]?=some f->(flds fs)[j * 2]?=some (.string f.1)/\(flds fs)[j * 2+1]?=some (.string f.2)
 | [],j,f,h=>by simp at h
 | g :: fs,0,f,h=>by simp at h;subst h;exact ⟨rfl,rfl⟩
 | g :: fs,j+1,f,h=>by
   rw [flds_cons];have:=flds_get (fs:=fs) (j:=j) (by simpa using h);rw [show (j+1) * 2=j * 2+1+1 by omega];simpa using this
def RF (w:World) (a:Option Addr) (n cap:Nat) (fs:List Fld):Prop:=Reads w 2 (.slice a n cap) n (flds fs)
theorem RF.len {w:World} {a:Option Addr} {n cap:Nat} {fs:List Fld} (h:RF w a n cap fs):fs.length=n:=by
 have:=(Reads.len h).2;rw [flds_len] at this;omega
theorem RF.at {w:World} {a:Option Addr} {n cap:Nat} {fs:List Fld} (h:RF w a n cap fs) {j:Nat} (hj:j<n) :
   ∃(b o:Nat) (f:Fld),fs[j]?=some f/\a=some ⟨b,o,none⟩/\w.cell? ⟨b,o+j * 2,none⟩=some (.string f.1)/\w.cell? ⟨b,o+j * 2+1,none⟩=some (.string f.2):=by
 have hl:=h.len
 have hj' : j<fs.length:=by omega
 have hf:fs[j]?=some fs[j]:=List.getElem?_eq_getElem hj'
 obtain ⟨h1,h2⟩:=flds_get hf
 obtain ⟨b,o,ha,hc⟩:=Reads.at h (j:=j * 2) (by rw [flds_len];omega)
 exact ⟨b,o,fs[j],hf,ha,hc _ _ h1,hc _ _ h2⟩
theorem RF.below {w w' : World} {a:Option Addr} {n cap:Nat} {fs:List Fld} (h:RF w a n cap fs) (hb:Below w.heap.size w w'):RF w' a n cap fs:=Reads.below h hb
theorem Aa {w w' : World} (hb:Below w.heap.size w w') {b q:Nat} {u:Value} (h:w.cell? ⟨b,q,none⟩=some u):w'.cell? ⟨b,q,none⟩=some u:=by
 rw [hb.cell (by exact World.block_lt_of_cell? _ _ h)];exact h
def C5 (fs:List Fld):Nat:=(fs.map fun f=>16+f.1.size+f.2.size).sum
def F3 (key:ByteArray) (k:Int) (t:ByteArray) (fs:List Fld):Nat:=if k=1 then 48+key.size+(if (wP t.data.toList).isSome then 8 else t.size) else 48+key.size+C5 fs
def Fy (f:Fld):Prop:=f.1.size<=100000/\f.2.size<=100000
theorem costF_append (a b:List Fld):C5 (a++b)=C5 a+C5 b:=by unfold C5;rw [List.map_append,List.sum_append]
theorem costF_take {fs:List Fld} {j:Nat} {f:Fld} (h:fs[j]?=some f):C5 (fs.take (j+1))=C5 (fs.take j)+(16+f.1.size+f.2.size):=by
 obtain ⟨h1,rfl⟩:=List.getElem?_eq_some_iff.1 h;rw [List.take_succ_eq_append_getElem h1,costF_append];rfl
theorem costF_le:∀{fs:List Fld},(∀f∈fs,Fy f)->C5 fs<=fs.length * 200016
 | [],_=>by simp [C5]
 | f :: fs,h=>by
   have h1:=costF_le (fs:=fs) fun g hg=>h g (List.mem_cons_of_mem _ hg);have h2:=h f (by simp);unfold Fy at h2;have:C5 (f :: fs)=(16+f.1.size+f.2.size)+C5 fs:=by unfold C5;rw [List.map_cons,List.sum_cons]
   rw [this,List.length_cons];omega
theorem costF_take_le {fs:List Fld} (h:∀f∈fs,Fy f) (j:Nat):C5 (fs.take j)<=j * 200016:=by
 have h1:=costF_le (fs:=fs.take j) fun g hg=>h g (List.mem_of_mem_take hg);exact Nat.le_trans h1 (Nat.mul_le_mul_right _ (List.length_take_le _ _))
set_option maxRecDepth 100000 in
set_option maxHeartbeats 6400000 in
theorem cost_any (key:ByteArray) (k:Int) (t:ByteArray) (a:Option Addr) (n cap:Nat) (fs:List Fld) (w:World) (hr:RF w a n cap fs) (hn:n<=100000) (hk:key.size<=1000000) (ht:t.size<=1000000) (hm:∀f∈fs,Fy f) (hN:Nums w) :
   Calls Tryz.prog 20 #[.string key,.agg #[.int .i64 k,.string t,.slice a n cap]] w fun e w' => e=.returned (.int .i64 (F3 key k t fs))/\Below w.heap.size w w' := by
 have hpar:∀W,Below w.heap.size w W->Calls Tryz.prog 23 #[.string t] W (NumOr (wP t.data.toList) 11 W):=fun W hb=>wparse_any t (by omega) W (hN.below hb)
 clear hN
 replace hpar:∀W,W=w.alloc (.cells #[.int .i64 k,.string t,.slice a n cap] 24)->Calls Tryz.prog 23 #[.string t] W (NumOr (wP t.data.toList) 11 W):=fun W e=>hpar W (by rw [e];exact (Below.refl _ _).alloc (Nat.le_refl _) _)
 have hl:=hr.len
 have hal:=(Below.refl w.heap.size w).alloc (Nat.le_refl _) (.cells #[.int .i64 k,.string t,.slice a n cap] 24)
 have h48:IntKind.i64.wrap (48+(key.size:Int))=48+(key.size:Int):=IntWalk.i64_in _ (by omega)
 by_cases k1:k=1
 · subst k1
   replace hal:=Hd hal;replace hpar:=Hd hpar;clear hr hl hm;cases hw:(wP t.data.toList).isSome with
   | true=>
     have hz:F3 key 1 t fs=48+key.size+8:=by unfold F3;rw [hw];simp
     have ei:(if (wP t.data.toList).isSome=true then (0:Int) else 11)=0:=by rw [hw];rfl
     have h56:IntKind.i64.wrap (48+(key.size:Int)+8)=((48+key.size+8:Nat):Int):=by rw [IntWalk.i64_in _ (by omega)];omega
     rw [hz];replace hw:=Hd hw;replace hz:=Hd hz
     go_enter Tryz.func20,Tryz.ntmps20
     go_wp2_with fail
     refine (hpar.out _ (by simp)).mono ?_;rintro e w1 ⟨rfl,hb1⟩;have hbel:=hal.out.trans (hb1.mono hal.out.size);clear hb1;rw [ei];go_wp2;go_ret;exact ⟨by first | rfl | (rw [h56]),hbel⟩
   | false=>
     have hz:F3 key 1 t fs=48+key.size+t.size:=by unfold F3;rw [hw];simp
     have ei:(if (wP t.data.toList).isSome=true then (0:Int) else 11)=11:=by rw [hw];rfl
     have h56:IntKind.i64.wrap (48+(key.size:Int)+(t.size:Int))=((48+key.size+t.size:Nat):Int):=by rw [IntWalk.i64_in _ (by omega)];omega
     rw [hz];have hsz:=World.cell?_alloc_new w #[.int .i64 1,.string t,.slice a n cap] 24 1;replace hw:=Hd hw;replace hz:=Hd hz
     go_enter Tryz.func20,Tryz.ntmps20
     go_wp2_with fail
     refine (hpar.out _ (by simp)).mono ?_;rintro e w1 ⟨rfl,hb1⟩;have hbel:=hal.out.trans (hb1.mono hal.out.size);have g1:w1.cell? ⟨w.heap.size,1,none⟩=some (.string t):=by rw [hb1.cell (by simp)];exact hsz
     clear hb1 hsz;rw [ei];go_wp2;go_ret;exact ⟨by first | rfl | (rw [h56]),hbel⟩
 have k1' : (k == 1)=false:=by simpa using k1
 have hz:F3 key k t fs=48+key.size+C5 fs:=by unfold F3;rw [if_neg k1]
 rw [hz]
 replace hz:=Hd hz
 replace hal:=Hd hal
 replace hl:=Hd hl
 replace hr:=Hd hr
 replace hm:=Hd hm
 replace hpar:=Hd hpar
 clear k1
 go_enter Tryz.func20,Tryz.ntmps20
 go_wp2_with fail
 go_loopw [5,34] (fun s5 i wr=>∃(j c:Nat),j<=n/\i=.int .i64 j/\s5=.int .i64 c/\c=48+key.size+C5 (fs.take j)/\Below w.heap.size w wr) (fun _ i _=>n - (intOf i).toNat)
 case atStart=>exact ⟨0,48+key.size,Nat.zero_le _,rfl,by go_num,rfl,hal.out⟩
 case round=>
   obtain ⟨j,c,hj,rfl,rfl,hc,hbel⟩:=hrel;have hcb:c<=1048+1000000+100000 * 200016:=by
     have:=costF_take_le hm.out j;have:j * 200016<=100000 * 200016:=Nat.mul_le_mul_right _ (by omega);omega
   by_cases hlt:j<n
   · obtain ⟨b,o,f,hf,rfl,d0,d1⟩:=hr.out.at hlt
     replace d0:=Aa hbel d0;replace d1:=Aa hbel d1;have hal2:=hbel.alloc hbel.size (.cells #[.string f.1,.string f.2] 53);have hfm:=hm.out f (List.mem_of_getElem? hf);unfold Fy at hfm;obtain ⟨m1,m2⟩:=hfm;have hc' : c+(16+f.1.size+f.2.size)=48+key.size+C5 (fs.take (j+1)):=by rw [costF_take hf];omega
     replace hc' := Hd hc';replace hc:=Hd hc;replace hf:=Hd hf;replace hal2:=Hd hal2;go_wp2
     go_roundw
     case rel=>exact ⟨j+1,c+(16+f.1.size+f.2.size),by omega,by go_num,by go_num,hc'.out,hal2.out⟩
     case measure=>simp [intOf];omega
   · have hjn:j=n:=by omega
     subst hjn;rw [List.take_of_length_le (by rw [hl.out];exact Nat.le_refl _)] at hc;subst hc;go_wp2;go_ret;exact ⟨rfl,hbel⟩
end Go.Proofs.YteoalcmhdoopnaaGreatDoor
