/- Base: frames over the heap, association maps in the heap, linked rings of cells. No program in sight. -/
import Derived.WalkKit
import Derived.WalkSpells
import Derived.WalkLawsBesides
import Derived.Lib.Hide
import Derived.LaidEqlPtr
import Derived.Maps.AppendAt
import Derived.Deep.MidRow
import Derived.Laws.AppendOwnNone
set_option linter.all false
namespace Go.Proofs.YtfaihaoajdcjbaaGreatDoor
theorem Hd {p:Prop} (h:p):RowKit.Hid p:=Lib.hid h
open Go.RowKit
@[go_sem] theorem run_store_float' (P:Program) (w:World) (a:Addr) (m:Mode) (k:FloatKind) (n:Nat):(store a (.float k n) m).run P w=stored P w a (.float k n) m:=run_store P w a _ m rfl
structure Fr (S:Nat->Prop) (w w' : World):Prop where
 os:w'.os=w.os
 tape:w'.tape=w.tape
 output:w'.output=w.output
 size:w.heap.size<=w'.heap.size
 block:∀k,k<w.heap.size->¬S k->w'.heap[k]?=w.heap[k]?
theorem Fr.refl (S:Nat->Prop) (w:World):Fr S w w:=⟨rfl,rfl,rfl,Nat.le_refl _,fun _ _ _=>rfl⟩
theorem Fr.trans {S:Nat->Prop} {a b c:World} (h:Fr S a b) (k:Fr S b c):Fr S a c:=
 ⟨k.os.trans h.os,k.tape.trans h.tape,k.output.trans h.output,Nat.le_trans h.size k.size,
   fun i hi hS=>(k.block i (Nat.lt_of_lt_of_le hi h.size) hS).trans (h.block i hi hS)⟩
theorem Fr.trans_new {S T:Nat->Prop} {a b c:World} (h:Fr S a b) (k:Fr T b c) (hT:∀i,i<a.heap.size->T i->S i):Fr S a c:=
 ⟨k.os.trans h.os,k.tape.trans h.tape,k.output.trans h.output,Nat.le_trans h.size k.size,
   fun i hi hS=>(k.block i (Nat.lt_of_lt_of_le hi h.size) (fun t=>hS (hT i hi t))).trans (h.block i hi hS)⟩
theorem Fr.mono {S T:Nat->Prop} {w w' : World} (h:Fr S w w') (hST:∀i,i<w.heap.size->S i->T i):Fr T w w' :=
 ⟨h.os,h.tape,h.output,h.size,fun k hk hT=>h.block k hk (fun s=>hT (hST k hk s))⟩
theorem Fr.drew {S:Nat->Prop} {a w:World} (h:Fr S a w):Fr S a w.drew:=⟨h.os,h.tape,h.output,h.size,h.block⟩
theorem Fr.alloc {S:Nat->Prop} {a w:World} (h:Fr S a w) (o:Obj):Fr S a (w.alloc o):=
 ⟨h.os,h.tape,h.output,by have:=h.size;simp;omega,fun k hk hS=>by
   rw [Below.heap_alloc w o k (Nat.lt_of_lt_of_le hk h.size)];exact h.block k hk hS⟩
theorem Fr.setCell {S:Nat->Prop} {a w:World} (h:Fr S a w) {p:Addr} (hp:p.block<a.heap.size->S p.block) (u:Value):Fr S a (w.setCell p u):=
 ⟨h.os,h.tape,h.output,by simpa using h.size,fun k hk hS=>by
   rw [Below.heap_setCell w p u k (fun e=>hS (by subst e;exact hp hk))];exact h.block k hk hS⟩
theorem Fr.cell {S:Nat->Prop} {w w' : World} (h:Fr S w w') {p:Addr} {v:Value} (hv:w.cell? p=some v) (hp:¬S p.block):w'.cell? p=some v:=by
 rw [World.cell?_of_block (w:=w) (h.block p.block (World.block_lt_of_cell? _ _ hv) hp)];exact hv
theorem Fr.below {S:Nat->Prop} {w w' : World} {B:Nat} (h:Fr S w w') (hB:B<=w.heap.size) (hS:∀i,i<B->¬S i):Below B w w' :=
 ⟨h.os,h.tape,h.output,h.size,fun k hk=>h.block k (Nat.lt_of_lt_of_le hk hB) (hS k hk)⟩
theorem Fr.of_below {w w' : World} {B:Nat} (h:Below B w w'):Fr (fun i=>B<=i) w w' :=
 ⟨h.os,h.tape,h.output,h.size,fun k _ hk=>h.block k (by omega)⟩
theorem Ab {w:World} {a b:Addr} {v:Value} (h:a≠b):(w.setCell a v).cell? b=w.cell? b:=by
 apply World.cell?_setCell_other;exact h
theorem Af {w:World} {a:Addr} {u v:Value} (h:w.cell? a=some u):(w.setCell a v).cell? a=some v:=by
 apply World.cell?_setCell_same;exact h
def setB (w:World) (b:Nat) (o:Obj):World:={ w with heap:=w.heap.setIfInBounds b o }
theorem Eo {w:World} {b:Nat} {o x:Obj} (h:w.heap[b]?=some x):(setB w b o).heap[b]?=some o:=by
 have:=(Array.getElem?_eq_some_iff.1 h).1;simp [setB,this]
theorem Dv {w:World} {b c:Nat} (o:Obj) (h:b≠c):(setB w b o).heap[c]?=w.heap[c]?:=by
 simp [setB,Array.getElem?_setIfInBounds_ne h]
theorem Fr.setB {S:Nat->Prop} {a w:World} (h:Fr S a w) {b:Nat} (hp:b<a.heap.size->S b) (o:Obj):Fr S a (setB w b o):=
 ⟨h.os,h.tape,h.output,by simpa [Proofs.YtfaihaoajdcjbaaGreatDoor.setB] using h.size,fun k hk hS=>by
   rw [Dv o (fun e=>hS (by subst e;exact hp hk))];exact h.block k hk hS⟩
section maps
variable {κ:Type} [DecidableEq κ]
structure KeyEmb (κ:Type) [DecidableEq κ] where
 emb:κ->Value
 kind:TypeDesc
 same:∀a b,Instr.sameNow kind (emb a) (emb b)=some (decide (a=b))
 bits:∀n a,Instr.sameBits n (emb a) (emb a)=true
 plain:∀(n:Nat) (t:TypeId) (P:Program) (w:World) (b:Bool) (a:κ),P.underlying t=some kind->(Instr.checkKey b (n+1) t (emb a)).run P w=.ok () w
theorem ba_beq (a b:ByteArray):(a == b)=decide (a=b):=by
 show (a.data == b.data)=_;rw [Bool.eq_iff_iff,beq_iff_eq,decide_eq_true_iff];cases a;cases b;simp
instance:LawfulBEq ByteArray where
 rfl:=by intro a;rw [ba_beq];simp
 eq_of_beq:=by intro a b h;rw [ba_beq] at h;simpa using h
def strKey:KeyEmb ByteArray where
 emb:=.string
 kind:=.string
 same:=fun a b=>by simp [Instr.sameNow,ba_beq]
 bits:=fun n a=>by cases n<;>simp [Instr.sameBits,ba_beq]
 plain:=fun n t P w b a h=>by simp [Instr.checkKey,run_underlying h]
def intKey:KeyEmb Int where
 emb:=.int .i64
 kind:=.int .i64
 same:=fun a b=>by simp [Instr.sameNow];by_cases h:a=b<;>simp [h]
 bits:=fun n a=>by cases n<;>simp [Instr.sameBits]
 plain:=fun n t P w b a h=>by simp [Instr.checkKey,run_underlying h]
def Ao (l:List (κ × Value)) (k:κ):Option Value:=(l.find? (fun p=>p.1=k)).map (·.2)
def ains (l:List (κ × Value)) (k:κ) (v:Value):List (κ × Value):=
 if k∈l.map (·.1) then l.map (fun p=>if p.1=k then (k,v) else p) else l++[(k,v)]
def adel (l:List (κ × Value)) (k:κ):List (κ × Value):=l.filter (fun p=>p.1≠k)
structure AMap (K:KeyEmb κ) (w:World) (m:Nat) (l:List (κ × Value)):Prop where
 nodup:(l.map (·.1)).Nodup
 held:∃es clock,w.heap[m]?=some (.map es clock)/\es.toList.map (fun e=>(e.key,e.val))=l.map (fun p=>(K.emb p.1,p.2)) /\
   es.toList.Pairwise (fun x y=>x.born<y.born)/\∀e∈es.toList,e.born<clock
theorem AMap.lt {K:KeyEmb κ} {w:World} {m:Nat} {l:List (κ × Value)} (h:AMap K w m l):m<w.heap.size:=by
 obtain ⟨es,c,hm,_⟩:=h.held;exact (Array.getElem?_eq_some_iff.1 hm).1
theorem AMap.of_block {K:KeyEmb κ} {w w' : World} {m:Nat} {l:List (κ × Value)} (h:AMap K w m l) (hb:w'.heap[m]?=w.heap[m]?):AMap K w' m l:=
 ⟨h.nodup,let ⟨es,c,hm,r⟩:=h.held;⟨es,c,hb.trans hm,r⟩⟩
theorem AMap.fr {K:KeyEmb κ} {S:Nat->Prop} {w w' : World} {m:Nat} {l:List (κ × Value)} (h:AMap K w m l) (hf:Fr S w w') (hS:¬S m):AMap K w' m l:=
 h.of_block (hf.block m h.lt hS)
theorem Dy (K:KeyEmb κ) (k:κ):∀(es:List MapEntry) (l:List (κ × Value)) (i:Nat),es.map (fun e=>(e.key,e.val))=l.map (fun p=>(K.emb p.1,p.2)) ->
   ∃r,Instr.findNow K.kind (K.emb k) es i=some r /\
     match r with
     | none=>Ao l k=none
     | some (j,v)=>i<=j/\l[j - i]?=some (k,v)/\Ao l k=some v:=by
 intro es;induction es with
 | nil=>
   intro l i h
   have:l=[]:=by cases l with
     | nil=>rfl
     | cons=>simp at h
   subst this;exact ⟨none,rfl,rfl⟩
 | cons e es ih=>
   intro l i h;cases l with
   | nil=>simp at h
   | cons p l=>
     simp only [List.map_cons,List.cons.injEq,Prod.mk.injEq] at h;obtain ⟨⟨hk,hv⟩,ht⟩:=h;by_cases hp:k=p.1
     · refine ⟨some (i,e.val),?_,Nat.le_refl _,?_,?_⟩
       · simp only [Instr.findNow,hk,K.same,hp,decide_true]
       · simp [hv,hp]
       · simp [Ao,hp,hv]
     · obtain ⟨r,hr,hspec⟩:=ih l (i+1) ht
       refine ⟨r,?_,?_⟩
       · simp only [Instr.findNow,hk,K.same,hp,decide_false];exact hr
       · have hne:¬p.1=k:=fun e=>hp e.symm
         cases r with
         | none=>simpa [Ao,List.find?_cons,hne] using hspec
         | some jv=>
           obtain ⟨j,v⟩:=jv;obtain ⟨h1,h2,h3⟩:=hspec;refine ⟨by omega,?_,?_⟩
           · rw [show j - i=(j - (i+1))+1 by omega];simpa using h2
           · simpa [Ao,List.find?_cons,hne] using h3
theorem Bs {l:List (κ × Value)} {k:κ}:Ao l k=none ↔ k ∉ l.map (·.1):=by
 simp only [Ao,Option.map_eq_none_iff,List.find?_eq_none,List.mem_map,not_exists,not_and,decide_eq_true_eq]
theorem alook_mem {l:List (κ × Value)} {k:κ} {v:Value} (h:Ao l k=some v):(k,v)∈l:=by
 simp only [Ao,Option.map_eq_some_iff] at h;obtain ⟨p,hp,rfl⟩:=h;have h1:=List.find?_some hp;have h2:=List.mem_of_find?_eq_some hp;simp at h1;rw [<-h1];exact h2
theorem B3 {l:List (κ × Value)} {k:κ} {v:Value} (hn:(l.map (·.1)).Nodup) (h:(k,v)∈l):Ao l k=some v:=by
 induction l with
 | nil=>cases h
 | cons p l ih=>
   simp only [List.map_cons,List.nodup_cons] at hn;rcases List.mem_cons.1 h with rfl | h
   · simp [Ao]
   · have hne:¬p.1=k:=fun e=>hn.1 (by rw [e];exact List.mem_map.2 ⟨_,h,rfl⟩)
     simpa [Ao,List.find?_cons,hne] using ih hn.2 h
theorem E6 {l l' : List (κ × Value)} (h:l.Perm l') (hn:(l.map (·.1)).Nodup) (k:κ):Ao l k=Ao l' k:=by
 have hn' : (l'.map (·.1)).Nodup:=(h.map _).nodup_iff.1 hn
 cases hl:Ao l k with
 | some v=>exact (B3 hn' (h.mem_iff.1 (alook_mem hl))).symm
 | none=>
   rw [Bs] at hl;exact (Bs.2 fun hm=>hl ((h.map (·.1)).mem_iff.2 hm)).symm
theorem AMap.lookup {K:KeyEmb κ} {P:Program} {w:World} {m:Nat} {l:List (κ × Value)} (h:AMap K w m l) {t kt e:TypeId} (ht:P.underlying t=some (.map kt e)) (hk:P.underlying kt=some K.kind)
   {z:Value} (hz:∀W,(zeroValue e).run P W=.ok z W) (k:κ) (ok:Bool) :
   (Instr.lookup t (.map (some m)) (K.emb k) ok).run P w=.ok (if ok then .tuple #[(Ao l k).getD z,.bool (Ao l k).isSome] else (Ao l k).getD z) w:=by
 obtain ⟨es,clock,hm,hes,_⟩:=h.held;obtain ⟨r,hr,hs⟩:=Dy K k es.toList l 0 hes;have hc:=fun b=>K.plain 9999 kt P w b k hk;simp only [show 9999+1=10000 from rfl] at hc;have hu:=run_underlying ht w;have hv:=run_underlying hk w;have hg:=MapKept.run_getObj_map (P:=P) hm;cases r with
 | none=>
   have hs' : Ao l k=none:=hs;cases ok<;>simp [Instr.lookup,hu,hv,hg,hc,Instr.findKey,hr,hz,hs']
 | some jv=>
   obtain ⟨j,v⟩:=jv;have hs' : Ao l k=some v:=hs.2.2;cases ok<;>simp [Instr.lookup,hu,hv,hg,hc,Instr.findKey,hr,hs']
theorem En {l:List (κ × Value)} {k:κ} {u:Value} (v:Value):∀{j:Nat},(l.map (·.1)).Nodup->l[j]?=some (k,u)->l.set j (k,v)=l.map (fun p=>if p.1=k then (k,v) else p):=by
 induction l with
 | nil=>intro j _ h;simp at h
 | cons p l ih=>
   intro j hn h;simp only [List.map_cons,List.nodup_cons] at hn;cases j with
   | zero=>
     simp only [List.getElem?_cons_zero,Option.some.injEq] at h;subst h;simp only [List.set_cons_zero,List.map_cons,if_true,List.cons.injEq,true_and];refine ((List.map_congr_left fun q hq=>?_).trans (List.map_id' l)).symm;have:¬q.1=k:=fun e=>hn.1 (by show k∈_;rw [<-e];exact List.mem_map.2 ⟨_,hq,rfl⟩);rw [if_neg this]
   | succ j=>
     simp only [List.getElem?_cons_succ] at h;have hne:¬p.1=k:=fun e=>hn.1 (by rw [e];exact List.mem_map.2 ⟨_,List.mem_of_getElem? h,rfl⟩);simp [hne,ih hn.2 h]
theorem D7 {l:List (κ × Value)} {k:κ} {u:Value}:∀{j:Nat},(l.map (·.1)).Nodup->l[j]?=some (k,u)->l.eraseIdx j=adel l k:=by
 induction l with
 | nil=>intro j _ h;simp at h
 | cons p l ih=>
   intro j hn h;simp only [List.map_cons,List.nodup_cons] at hn;cases j with
   | zero=>
     simp only [List.getElem?_cons_zero,Option.some.injEq] at h;subst h;simp only [List.eraseIdx_cons_zero,adel,List.filter_cons];simp only [ne_eq,not_true_eq_false,decide_false,Bool.false_eq_true,if_false];refine (List.filter_eq_self.2 fun q hq=>?_).symm;have:q.1≠k:=fun e=>hn.1 (by show k∈_;rw [<-e];exact List.mem_map.2 ⟨_,hq,rfl⟩);simpa using this
   | succ j=>
     simp only [List.getElem?_cons_succ] at h;have hne:¬p.1=k:=fun e=>hn.1 (by rw [e];exact List.mem_map.2 ⟨_,List.mem_of_getElem? h,rfl⟩);simp only [List.eraseIdx_cons_succ,adel,List.filter_cons,ne_eq,hne,not_false_eq_true,decide_true,if_true,List.cons.injEq,true_and];exact ih hn.2 h
theorem Ci {α β:Type} (g:α->β):∀(l:List α) (j:Nat),(l.map g).eraseIdx j=(l.eraseIdx j).map g
 | [],j=>by simp
 | x :: l,0=>by simp
 | x :: l,j+1=>by simp [Ci g l j]
theorem C7 {α β:Type} (g:α->β) (f:α->α) (b:β) (hf:∀x,g (f x)=b):∀(l:List α) (j:Nat),(l.modify j f).map g=(l.map g).set j b
 | [],j=>by cases j<;>simp
 | x :: l,0=>by simp [hf]
 | x :: l,j+1=>by simp [C7 g f b hf l j]
theorem Ft {α:Type} (f:α->α) {p:α->Prop} (hf:∀x,p x->p (f x)):∀(l:List α) (j:Nat),(∀x∈l,p x)->∀x∈l.modify j f,p x
 | [],j,_=>by cases j<;>simp
 | x :: l,0,h=>by
   intro y hy;simp only [List.modify_zero_cons,List.mem_cons] at hy;rcases hy with rfl | hy
   · exact hf _ (h _ (List.mem_cons_self ..))
   · exact h _ (List.mem_cons_of_mem _ hy)
 | x :: l,j+1,h=>by
   intro y hy;simp only [List.modify_succ_cons,List.mem_cons] at hy;rcases hy with rfl | hy
   · exact h _ (List.mem_cons_self ..)
   · exact Ft f hf l j (fun z hz=>h z (List.mem_cons_of_mem _ hz)) y hy
theorem Ed (f:MapEntry->MapEntry) (hf:∀x,(f x).born=x.born) (l:List MapEntry) (j:Nat) :
   (l.modify j f).Pairwise (fun x y=>x.born<y.born) ↔ l.Pairwise (fun x y=>x.born<y.born):=by
 have e:(l.modify j f).map (·.born)=l.map (·.born):=by
   induction l generalizing j with
   | nil=>cases j<;>rfl
   | cons x l ih=>
     cases j with
     | zero=>simp [hf]
     | succ j=>simp [ih]
 have h1:∀l:List MapEntry,l.Pairwise (fun x y=>x.born<y.born) ↔ (l.map (·.born)).Pairwise (·<·):=fun l=>by rw [List.pairwise_map]
 rw [h1,h1,e]
theorem AMap.update {K:KeyEmb κ} {P:Program} {w:World} {m:Nat} {l:List (κ × Value)} (h:AMap K w m l) {t kt e:TypeId} (ht:P.underlying t=some (.map kt e)) (hk:P.underlying kt=some K.kind)
   (k:κ) (v:Value):∃o,(Instr.mapUpdate t (.map (some m)) (K.emb k) v).run P w=.ok () (setB w m o)/\∀W,W.heap[m]?=some o->AMap K W m (ains l k v):=by
 obtain ⟨es,clock,hm,hes,hb,hlt⟩:=h.held;obtain ⟨r,hr,hs⟩:=Dy K k es.toList l 0 hes;have hc:=fun b=>K.plain 9999 kt P w b k hk;simp only [show 9999+1=10000 from rfl] at hc;have hu:=run_underlying ht w;have hv:=run_underlying hk w;have hg:=MapKept.run_getObj_map (P:=P) hm;have hset:=fun o=>MapKept.run_setObj_map (P:=P) o hm;cases r with
 | none=>
   have hs' : Ao l k=none:=hs;have hk' := Bs.1 hs';refine ⟨.map (es.push { key:=K.emb k,val:=v,born:=clock }) (clock+1),?_,fun W hW=>⟨?_,_,_,hW,?_,?_,?_⟩⟩
   · simp [Instr.mapUpdate,hu,hv,hg,hc,Instr.findKey,hr,hset,setB]
   · rw [ains,if_neg hk', List.map_append,List.nodup_append]
     exact ⟨h.nodup,by simp,fun a ha b hb=>by simp at hb;subst hb;exact fun e=>hk' (e ▸ ha)⟩
   · rw [ains,if_neg hk'];simp [hes]
   · simp only [Array.toList_push,List.pairwise_append]
     exact ⟨hb,by simp,fun a ha b hb' => by simp at hb'; subst hb'; exact hlt a ha⟩
   · intro e he
     simp only [Array.toList_push,List.mem_append,List.mem_singleton] at he;rcases he with he | rfl
     · exact Nat.lt_succ_of_lt (hlt e he)
     · exact Nat.lt_succ_self _
 | some jv=>
   obtain ⟨j,u⟩:=jv;have hj:l[j]?=some (k,u):=by simpa using hs.2.1
   have hin:k∈l.map (·.1):=List.mem_map.2 ⟨_,List.mem_of_getElem? hj,rfl⟩
   have hej:es.toList[j]?.map (fun e=>(e.key,e.val))=some (K.emb k,u):=by
     rw [<-List.getElem?_map,hes,List.getElem?_map,hj];rfl
   obtain ⟨e0,he0,he1⟩:=Option.map_eq_some_iff.1 hej;have he0' : es[j]?=some e0:=by simpa using he0
   simp only [Prod.mk.injEq] at he1;refine ⟨.map (es.modify j fun e=>{ e with key:=K.emb k,val:=v }) clock,?_,fun W hW=>⟨?_,_,_,hW,?_,?_,?_⟩⟩
   · simp [Instr.mapUpdate,hu,hv,hg,hc,Instr.findKey,hr,hset,setB,Instr.keyThatStays,he0', he1.1,K.bits]
   · rw [ains,if_pos hin,List.map_map]
     have:((fun p:κ × Value=>p.1) ∘ fun p=>if p.1=k then (k,v) else p)=fun p=>p.1:=by
       funext p
       by_cases hp:p.1=k<;>simp [hp]
     rw [this];exact h.nodup
   · rw [ains,if_pos hin,<-En v h.nodup hj,Array.toList_modify,List.map_set,<-hes]
     exact C7 (fun e:MapEntry=>(e.key,e.val)) _ (K.emb k,v) (fun _=>rfl) _ _
   · rw [Array.toList_modify];exact (Ed (fun e:MapEntry=>{ e with key:=K.emb k,val:=v }) (fun _=>rfl) _ _).2 hb
   · rw [Array.toList_modify];exact Ft (fun e:MapEntry=>{ e with key:=K.emb k,val:=v }) (p:=fun e:MapEntry=>e.born<clock) (fun _ h=>h) _ _ hlt
theorem AMap.delete {K:KeyEmb κ} {P:Program} {w:World} {m:Nat} {l:List (κ × Value)} (h:AMap K w m l) {t kt e:TypeId} (ht:P.underlying t=some (.map kt e)) (hk:P.underlying kt=some K.kind)
   (k:κ) (ts:Array TypeId) (T:TypeId) (hts:ts[0]?=some t):∃o,(Builtin.delete_ ts T #[.map (some m),K.emb k]).run P w=.ok (.tuple #[]) (setB w m o)/\∀W,W.heap[m]?=some o->AMap K W m (adel l k):=by
 obtain ⟨es,clock,hm,hes,hb,hlt⟩:=h.held;obtain ⟨r,hr,hs⟩:=Dy K k es.toList l 0 hes;have hc:=fun b=>K.plain 9999 kt P w b k hk;simp only [show 9999+1=10000 from rfl] at hc;have hu:=run_underlying ht w;have hv:=run_underlying hk w;have hg:=MapKept.run_getObj_map (P:=P) hm;have hset:=fun o=>MapKept.run_setObj_map (P:=P) o hm;cases r with
 | none=>
   have hs' : Ao l k=none:=hs;have hk' := Bs.1 hs';have hd:adel l k=l:=List.filter_eq_self.2 fun q hq=>by
     have:q.1≠k:=fun e=>hk' (by rw [<-e];exact List.mem_map.2 ⟨_,hq,rfl⟩);simpa using this
   refine ⟨.map es clock,?_,fun W hW=>by rw [hd];exact ⟨h.nodup,_,_,hW,hes,hb,hlt⟩⟩;simp [Builtin.delete_,hts,hu,hv,hg,hc,Instr.findKey,hr,hset,setB]
 | some jv=>
   obtain ⟨j,u⟩:=jv;have hj:l[j]?=some (k,u):=by simpa using hs.2.1
   refine ⟨.map (es.eraseIdxIfInBounds j) clock,?_,fun W hW=>⟨?_,_,_,hW,?_,?_,?_⟩⟩
   · simp [Builtin.delete_,hts,hu,hv,hg,hc,Instr.findKey,hr,hset,setB]
   · exact h.nodup.sublist ((List.filter_sublist (l:=l)).map _)
   · rw [<-D7 h.nodup hj,Array.toList_eraseIdxIfInBounds,<-Ci, <-Ci, hes]
   · rw [Array.toList_eraseIdxIfInBounds];exact hb.sublist (List.eraseIdx_sublist _ _)
   · rw [Array.toList_eraseIdxIfInBounds];exact fun e he=>hlt e ((List.eraseIdx_sublist _ _).subset he)
end maps
theorem run_len_map {κ:Type} [DecidableEq κ] {K:KeyEmb κ} {P:Program} {w:World} {m:Nat} {l:List (κ × Value)} (h:AMap K w m l) (t kt e:TypeId) (T:TypeId) (ht:P.underlying t=some (.map kt e)) :
   (Builtin.len_ #[t] T #[.map (some m)]).run P w=.ok (.int .i64 l.length) w:=by
 obtain ⟨es,clock,hm,hes,_⟩:=h.held;have hl:es.size=l.length:=by have:=congrArg List.length hes;simpa using this
 have hg:=MapKept.run_getObj_map (P:=P) hm;have hu:=run_underlying ht w;simp [Builtin.len_,hg,hl,hu,goInt]
def Blk (w:World) (b:Nat):Prop:=∃c t,w.heap[b]?=some (.cells c t (0,0))
theorem Blk.frz {w:World} {b:Nat} (h:Blk w b) (o:Nat) (s:Option Nat):w.frozen? ⟨b,o,s⟩=false:=by
 obtain ⟨c,t,h⟩:=h;simp [World.frozen?,h]
theorem Blk.lt {w:World} {b:Nat} (h:Blk w b):b<w.heap.size:=by
 obtain ⟨c,t,h⟩:=h;exact (Array.getElem?_eq_some_iff.1 h).1
theorem Blk.setCell {w:World} {b:Nat} (h:Blk w b) (a:Addr) (v:Value):Blk (w.setCell a v) b:=by
 obtain ⟨c,t,h⟩:=h;simp only [Blk,World.setCell,Array.getElem?_modify];split
 · simp [h]
 · exact ⟨c,t,h⟩
theorem Blk.of_block {w w' : World} {b:Nat} (h:Blk w b) (e:w'.heap[b]?=w.heap[b]?):Blk w' b:=let ⟨c,t,h⟩:=h;⟨c,t,e.trans h⟩
theorem Blk.fr {w w' : World} {b:Nat} {S:Nat->Prop} (h:Blk w b) (hf:Fr S w w') (hS:¬S b):Blk w' b:=h.of_block (hf.block b h.lt hS)
theorem Blk.new (w:World) (c:Array Value) (t:TypeId):Blk (w.alloc (.cells c t)) w.heap.size:=⟨c,t,by show (w.heap.push _)[w.heap.size]?=_;simp⟩
theorem Blk.drew {w:World} {b:Nat} (h:Blk w b):Blk w.drew b:=h
theorem C6 {P:Program} {w w' : World} {t:TypeId} {x y:Option Addr} {r:Bool} (h:(binOp .eql t (.pointer x) (.pointer y)).run P w=.ok (.bool r) w') :
   (binOp .neq t (.pointer x) (.pointer y)).run P w=.ok (.bool (!r)) w' := by
 simp only [binOp] at h ⊢;simp only [Sem.run_bind] at h ⊢;cases hr:(Op.equal t (.pointer x) (.pointer y)).run P w with
 | ok v u=>
   rw [hr] at h;simp at h ⊢;obtain ⟨rfl,rfl⟩:=h;exact ⟨rfl,rfl⟩
 | halt x u=>rw [hr] at h;simp at h
theorem Er {a b:ByteArray} (h:a.toList=b.toList):a=b:=by
 rw [ByteArray.toList_eq,ByteArray.toList_eq] at h;exact ByteArray.ext (Array.toList_inj.mp h)
theorem str_beq (a b:ByteArray):(a.toList == b.toList)=decide (a=b):=by
 by_cases h:a=b
 · subst h;simp
 · have:¬a.toList=b.toList:=fun e=>h (Er e)
   simp [h,this]
theorem str_ne {a b:ByteArray} (h:a≠b):(a.toList == b.toList)=false:=by rw [str_beq];simpa using h
theorem str_eq {a b:ByteArray} (h:a=b):(a.toList == b.toList)=true:=by rw [str_beq];simpa using h
def Reads (w:World) (size:Nat) (v:Value) (n:Nat) (xs:List Value):Prop:=
 ∃a cap,v=.slice a n cap/\xs.length=n * size/\∀j u,xs[j]?=some u->∃b o,a=some ⟨b,o,none⟩/\w.cell? ⟨b,o+j,none⟩=some u
theorem Reads.of_owns {w:World} {base:Nat} {e:TypeId} {size:Nat} {v:Value} {n:Nat} {xs:List Value} (h:w.ownsRow base e size v n xs):Reads w size v n xs:=by
 obtain ⟨hl,h⟩:=h;rcases h with ⟨rfl,rfl⟩ | ⟨g,cap,cur,rfl,hg,hh,hn,hm,hc,rfl⟩
 · refine ⟨none,0,rfl,hl,fun j u hj=>?_⟩
   have:xs=[]:=by simpa using hl
   subst this;simp at hj
 · refine ⟨some ⟨g,0,none⟩,cap,rfl,hl,fun j u hj=>⟨g,0,rfl,?_⟩⟩
   have hlt:j<n * size:=by
     have:=(List.getElem?_eq_some_iff.1 hj).1;omega
   rw [List.getElem?_take_of_lt hlt] at hj;simpa [World.cell?,hh] using hj
theorem Reads.fr {w w' : World} {size:Nat} {v:Value} {n:Nat} {xs:List Value} (h:Reads w size v n xs) {S:Nat->Prop} (hf:Fr S w w') (hS:∀a m c,v=.slice (some a) m c->¬S a.block):Reads w' size v n xs:=by
 obtain ⟨a,cap,rfl,hl,h⟩:=h;exact ⟨a,cap,rfl,hl,fun j u hj=>let ⟨b,o,ha,hc⟩:=h j u hj;⟨b,o,ha,hf.cell hc (hS ⟨b,o,none⟩ n cap (by rw [ha]))⟩⟩
def Elem (P:Program) (t e:TypeId) (size bytes:Nat):Prop:=
 P.underlying t=some (.slice e)/\0<size/\bytes<=100000/\∃i z,P.info? e=some i/\i.zero=some z/\i.size=size/\i.bytes=bytes/\z.cells.size=size
theorem C1 {P:Program} {t e:TypeId} {size bytes:Nat} (ht:P.underlying t=some (.slice e)) (hs:0<size) (hb:bytes<=100000)
   (h:(P.info? e).map (fun i=>(i.zero.map (·.cells.size),i.size,i.bytes))=some (some size,size,bytes)):Elem P t e size bytes:=by
 obtain ⟨i,hi,hz⟩:=Option.map_eq_some_iff.1 h;simp only [Prod.mk.injEq] at hz;obtain ⟨h1,h2,h3⟩:=hz;obtain ⟨z,hz,h4⟩:=Option.map_eq_some_iff.1 h1;exact ⟨ht,hs,hb,i,z,hi,hz,h2,h3,h4⟩
theorem Fr.of_grown {w w' : World} {row:Option Nat} (h:w.grownBy w' row):Fr (fun k=>row=some k) w w' :=
 ⟨h.os,h.tape,h.output,h.size,fun k hk hS=>h.block k hk (fun e=>hS e.symm)⟩
theorem append_elem {P:Program} {w0:World} {ops:Array Oper} {rest:List Oper} {o:Oper} {a:Act} {Q:Exit->Act->World->Prop} {s x:Operand} {t e base size bytes n:Nat} {v:Value} {xs:List Value} {us:Array Value}
   (hgd:o.guard=none) (ho:o.op=.call { callee:=.builtin .append,args:=#[s,x],argTypes:=#[t,t] }) (E:Elem P t e size bytes)
   (hs:a.eval s=v) (hown:w0.ownsRow base e size v n xs) (hx:a.eval x=.slice (some ⟨w0.heap.size,0,none⟩) 1 1) (hus:us.size=size) (h1:us.toList.all (fun u=>u.oneCell')=true)
   (hn:n<1000000000) (hbase:base<=w0.heap.size)
   (h:∀v' w', w'.ownsRow base e size v' (n+1) (xs++us.toList)->Fr (fun k=>v.ownBlock=some k) w0 w' -> wpList P ops Q rest (a.put o.dst v') w'):wpList P ops Q (o :: rest) a (w0.alloc (.cells us e)):=by
 obtain ⟨ht,hsz,hb,i,z,hi,hz,hi1,hi2,hz1⟩:=E;refine wpList_append_own _ hgd s x t ho base e i z size bytes ht hi hz hi1 hi2 hz1 hsz v n xs hs (hown.alloc _) ⟨w0.heap.size,0,none⟩ 1 1 us.toList hx (by simp [hus]) ?_ ?_ ?_ ?_ ?_ ?_
 · intro j u hj
   have e1:(⟨w0.heap.size,0,none⟩:Addr).add j=⟨w0.heap.size,j,none⟩:=by
     unfold Addr.add;split
     · rename_i h;rw [h]
     · simp
   rw [e1,World.cell?_alloc_new];simpa using hj
 · intro u hu;exact List.all_eq_true.1 h1 u hu
 · unfold maxLen;omega
 · have:(n+1) * bytes<=1000000000 * 100000:=Nat.mul_le_mul (by omega) hb
   omega
 · simp;omega
 · intro v' w' g1 g2 _
   refine h v' w' g1 ⟨g2.os,g2.tape,g2.output,by have:=g2.size;simp at this;omega,fun k hk hS=>?_⟩;rw [g2.block k (by simp;omega) (fun e=>hS e.symm),Below.heap_alloc _ _ _ hk]
theorem Dj {w w' : World} {base e size n:Nat} {v:Value} {xs:List Value} {S:Nat->Prop} (h:w.ownsRow base e size v n xs) (hf:Fr S w w') (hS:∀k,v.ownBlock=some k->¬S k):w'.ownsRow base e size v n xs:=by
 obtain ⟨h1,h2⟩:=h;refine ⟨h1,?_⟩;rcases h2 with h2 | ⟨g,cap,cur,hv,hg,hh,r⟩
 · exact Or.inl h2
 · refine Or.inr ⟨g,cap,cur,hv,hg,?_,r⟩
   rw [hf.block g (Array.getElem?_eq_some_iff.1 hh).1 (hS g (by rw [hv];rfl))];exact hh
theorem An {w:World} {base e size n:Nat} {v:Value} {xs:List Value} (h:w.ownsRow base e size v n xs):∀k,v.ownBlock=some k->base<=k/\k<w.heap.size:=h.lt
theorem Below.of_append {w w0 w' : World} {v:Value} {B:Nat} (h:Below B w w0) (hf:Fr (fun k=>v.ownBlock=some k) w0 w') (hv:∀k,v.ownBlock=some k->B<=k) (hB:B<=w0.heap.size):Below B w w' :=
 h.trans (hf.below hB (fun i hi e=>by have:=hv i e;omega))
theorem Reads.len {w:World} {size:Nat} {a:Option Addr} {n m cap:Nat} {xs:List Value} (h:Reads w size (.slice a n cap) m xs):m=n/\xs.length=n * size:=by
 obtain ⟨a', cap', h1,h2,_⟩:=h;cases h1
 exact ⟨rfl,h2⟩
theorem Reads.at {w:World} {size:Nat} {a:Option Addr} {n m cap:Nat} {xs:List Value} (h:Reads w size (.slice a n cap) m xs) {j:Nat} (hj:j<xs.length):∃b o,a=some ⟨b,o,none⟩/\∀j u,xs[j]?=some u->w.cell? ⟨b,o+j,none⟩=some u:=by
 obtain ⟨a', cap', h1,h2,h3⟩:=h;cases h1
 obtain ⟨b,o,ha,_⟩:=h3 j xs[j] (by simp [hj]);refine ⟨b,o,ha,fun j u hu=>?_⟩;obtain ⟨b', o', ha', hc⟩:=h3 j u hu;rw [ha] at ha';cases ha'
 exact hc
theorem Reads.nil (w:World) (size:Nat) (a:Option Addr) (cap:Nat):Reads w size (.slice a 0 cap) 0 []:=⟨a,cap,rfl,by simp,fun j u h=>by simp at h⟩
theorem Reads.of_same {w w' : World} {size:Nat} {v:Value} {n:Nat} {xs:List Value} (h:Reads w size v n xs) (hw:∀a v,w.cell? a=some v->w'.cell? a=some v):Reads w' size v n xs:=by
 obtain ⟨a,cap,rfl,hl,h⟩:=h;exact ⟨a,cap,rfl,hl,fun j u hj=>let ⟨b,o,ha,hc⟩:=h j u hj;⟨b,o,ha,hw _ _ hc⟩⟩
theorem Reads.below {w w' : World} {size:Nat} {v:Value} {n:Nat} {xs:List Value} (h:Reads w size v n xs) (hb:Below w.heap.size w w'):Reads w' size v n xs:=
 h.of_same fun a v hc=>by rw [hb.cell (World.block_lt_of_cell? _ _ hc)];exact hc
theorem Below.drewN {B m:Nat} {w w' : World} (h:Below B w w'):Below B w (w'.drewN m):=by
 induction m with
 | zero=>exact h
 | succ m ih=>first | exact ih.drew | simpa [World.drewN] using ih.drew
theorem owns_empty (w:World) (e size:Nat):(w.alloc (.cells #[] e)).ownsRow w.heap.size e size (.slice (some ⟨w.heap.size,0,none⟩) 0 0) 0 []:=
 ⟨by simp,Or.inr ⟨w.heap.size,0,#[],rfl,Nat.le_refl _,by show (w.heap.push _)[w.heap.size]?=_;simp,Nat.le_refl _,by unfold maxLen;omega,by simp,by simp⟩⟩
theorem Reads.shape {w:World} {size:Nat} {v:Value} {n:Nat} {xs:List Value} (h:Reads w size v n xs):∃a cap,v=.slice a n cap:=let ⟨a,cap,e,_⟩:=h;⟨a,cap,e⟩
theorem Fb {P:Program} {w0:World} {ops:Array Oper} {rest:List Oper} {o:Oper} {a:Act} {Q:Exit->Act->World->Prop} {s x:Operand} {t e base size bytes n:Nat} {v:Value} {xs:List Value} {us:Array Value}
   (hgd:o.guard=none) (ho:o.op=.call { callee:=.builtin .append,args:=#[s,x],argTypes:=#[t,t] }) (E:Elem P t e size bytes)
   (hs:a.eval s=v) (hown:w0.ownsRow base e size v n xs) (hx:a.eval x=.slice (some ⟨w0.heap.size,0,none⟩) 1 1) (hus:us.size=size) (h1:us.toList.all (fun u=>u.oneCell')=true)
   (hn:n<1000000000) (hbase:base<=w0.heap.size)
   (h:∀v' w', w'.ownsRow base e size v' (n+1) (xs++us.toList)->Fr (fun k=>v.ownBlock=some k) w0 w' -> (∀k,v'.ownBlock=some k->v.ownBlock=some k\/w0.heap.size<=k)->wpList P ops Q rest (a.put o.dst v') w'):wpList P ops Q (o :: rest) a (w0.alloc (.cells us e)):=by
 obtain ⟨ht,hsz,hb,i,z,hi,hz,hi1,hi2,hz1⟩:=E;refine wpList_append_own_at _ hgd s x t ho base e i z size bytes ht hi hz hi1 hi2 hz1 hsz v n xs hs (hown.alloc _) ⟨w0.heap.size,0,none⟩ 1 1 us.toList hx (by simp [hus]) ?_ ?_ ?_ ?_ ?_ ?_
 · intro j u hj
   have e1:(⟨w0.heap.size,0,none⟩:Addr).add j=⟨w0.heap.size,j,none⟩:=by
     unfold Addr.add;split
     · rename_i h;rw [h]
     · simp
   rw [e1,World.cell?_alloc_new];simpa using hj
 · intro u hu;exact List.all_eq_true.1 h1 u hu
 · unfold maxLen;omega
 · have:(n+1) * bytes<=1000000000 * 100000:=Nat.mul_le_mul (by omega) hb
   omega
 · simp;omega
 · intro v' w' g1 g2 _ g4
   refine h v' w' g1 ⟨g2.os,g2.tape,g2.output,by have:=g2.size;simp at this;omega,fun k hk hS=>?_⟩ (fun k hk=>?_)
   · rw [g2.block k (by simp;omega) (fun e=>hS e.symm),Below.heap_alloc _ _ _ hk]
   · rcases g4 with g4 | g4
     · exact Or.inl (g4 ▸ hk)
     · rw [g4] at hk;simp at hk;exact Or.inr (by omega)
theorem Da {P:Program} {w0:World} {ops:Array Oper} {rest:List Oper} {o:Oper} {a:Act} {Q:Exit->Act->World->Prop} {s x:Operand} {t e base size bytes n m cx:Nat} {ax:Option Addr} {v:Value} {xs news:List Value}
   (hgd:o.guard=none) (ho:o.op=.call { callee:=.builtin .append,args:=#[s,x],argTypes:=#[t,t] }) (E:Elem P t e size bytes)
   (hs:a.eval s=v) (hown:w0.ownsRow base e size v n xs) (hx:a.eval x=.slice ax m cx) (hr:Reads w0 size (.slice ax m cx) m news) (hnil:ax=none->cx=0) (h1:news.all (fun u=>u.oneCell')=true)
   (hn:n+m<1000000000) (hbase:base<=w0.heap.size)
   (h:∀v' w', w'.ownsRow base e size v' (n+m) (xs++news)->Fr (fun k=>v.ownBlock=some k) w0 w' -> (∀k,v'.ownBlock=some k->v.ownBlock=some k\/w0.heap.size<=k)->wpList P ops Q rest (a.put o.dst v') w'):wpList P ops Q (o :: rest) a w0:=by
 obtain ⟨ht,hsz,hb,i,z,hi,hz,hi1,hi2,hz1⟩:=E;have hl:=hr.len.2;cases ax with
 | none=>
   have hm:m=0:=by
     rcases Nat.eq_zero_or_pos m with h | h
     · exact h
     · have:0<news.length:=by rw [hl];exact Nat.mul_pos h hsz
       obtain ⟨b,o', ha,_⟩:=hr.at this;cases ha
   subst hm;have:news=[]:=by simpa using hl
   subst this;rw [hnil rfl] at hx;refine wpList_append_own_none hgd s x t ho base e i size ht hi v n xs hs hown hx (h v w0 (by simpa using hown) (Fr.refl _ _) (fun k hk=>Or.inl hk))
 | some ad=>
   refine wpList_append_own_at _ hgd s x t ho base e i z size bytes ht hi hz hi1 hi2 hz1 hsz v n xs hs hown ad m cx news hx hl ?_ (fun u hu=>List.all_eq_true.1 h1 u hu) (by unfold maxLen;omega) ?_ hbase ?_
   · intro j u hj
     obtain ⟨b,o', ha,hc⟩:=hr.at (List.getElem?_eq_some_iff.1 hj).1;cases ha
     have:=hc j u hj;unfold Addr.add;split
     · rename_i h;rw [h] at this;simpa using this
     · exact this
   · have:(n+m) * bytes<=1000000000 * 100000:=Nat.mul_le_mul (by omega) hb
     omega
   · intro v' w' g1 g2 _ g4
     refine h v' w' g1 (Fr.of_grown g2) (fun k hk=>?_);rcases g4 with g4 | g4
     · exact Or.inl (g4 ▸ hk)
     · rw [g4] at hk;simp at hk;exact Or.inr (by omega)
theorem Cj {w:World} {b o:Nat} {c0 c1 c2 c3 c4 c5:Value} (h0:w.cell? ⟨b,o,none⟩=some c0) (h1:w.cell? ⟨b,o+1,none⟩=some c1) (h2:w.cell? ⟨b,o+2,none⟩=some c2) (h3:w.cell? ⟨b,o+3,none⟩=some c3)
   (h4:w.cell? ⟨b,o+4,none⟩=some c4) (h5:w.cell? ⟨b,o+5,none⟩=some c5):w.rangeAt b o [c0,c1,c2,c3,c4,c5]:=by
 intro j v hv
 match j,hv with
 | 0,hv=>simp at hv;subst hv;exact h0
 | 1,hv=>simp at hv;subst hv;exact h1
 | 2,hv=>simp at hv;subst hv;exact h2
 | 3,hv=>simp at hv;subst hv;exact h3
 | 4,hv=>simp at hv;subst hv;exact h4
 | 5,hv=>simp at hv;subst hv;exact h5
 | j+6,hv=>simp at hv
theorem At {w:World} {b n:Nat} {cs:List Value} (h:w.rangeAt b 0 cs) (hb:Blk w b) (hn:n=cs.length):w.there b 0 n:=fun j hj=>⟨h.isSome j (by omega),hb.frz _ none⟩
theorem Fr.setCells {S:Nat->Prop} {a:World} {b:Nat} (hp:b<a.heap.size->S b):∀(vs:List Value) (o:Nat) (w:World),Fr S a w->Fr S a (w.setCells b o vs)
 | [],_,_,h=>h
 | v :: vs,o,w,h=>by rw [World.setCells];exact Fr.setCells hp vs (o+1) _ (h.setCell hp v)
theorem Blk.setCells {b c:Nat}:∀(vs:List Value) (o:Nat) (w:World),Blk w c->Blk (w.setCells b o vs) c
 | [],_,_,h=>h
 | v :: vs,o,w,h=>by rw [World.setCells];exact Blk.setCells vs (o+1) _ (h.setCell _ _)
theorem Ax {fn:Func} {p:Tmp} {ty:TypeId} {tmps:Array Value} {P:Program} {w:World} {ad:Addr} {v:Value} (h:fn.results=#[.cell p ty]) (hp:tmps.getD p undef=.pointer (some ad)) (hl:(loadVar ty ad).run P w=.ok v w) :
   (results fn tmps).run P w=.ok v w:=by
 simp only [results,h];simp [Sem.run_bind,Result.andThen,asAddr,hl,show tmps[p]?.getD undef=.pointer (some ad) by simpa using hp]
theorem Cf {fn:Func} {p u:Tmp} {ty:TypeId} {tmps:Array Value} {P:Program} {w:World} {ad:Addr} {v:Value} (h:fn.results=#[.cell p ty,.tmp u]) (hp:tmps.getD p undef=.pointer (some ad)) (hl:(loadVar ty ad).run P w=.ok v w) :
   (results fn tmps).run P w=.ok (.tuple #[v,tmps.getD u undef]) w:=by
 simp only [results,h];simp [Sem.run_bind,Result.andThen,asAddr,hl,show tmps[p]?.getD undef=.pointer (some ad) by simpa using hp]
theorem kp_of {W w:World} (h:Below W.heap.size W w):Below W.heap.size W w/\∀b o,b<W.heap.size->w.cell? ⟨b,o,none⟩=W.cell? ⟨b,o,none⟩:=⟨h,fun b o hb=>h.cell (by exact hb)⟩
theorem kp_keep {W w w' : World} (h:Below W.heap.size W w/\∀b o,b<W.heap.size->w.cell? ⟨b,o,none⟩=W.cell? ⟨b,o,none⟩) (hb:Below w.heap.size w w') :
   Below W.heap.size W w' /\ ∀b o,b<W.heap.size->w'.cell? ⟨b,o,none⟩=W.cell? ⟨b,o,none⟩:=kp_of (h.1.trans (hb.mono h.1.size))
theorem kp_drew {W:World}:Below W.heap.size W W.drew/\∀b o,b<W.heap.size->W.drew.cell? ⟨b,o,none⟩=W.cell? ⟨b,o,none⟩:=kp_of (Below.drew (Below.refl _ _))
theorem kp_alloc {W w:World} (h:Below W.heap.size W w/\∀b o,b<W.heap.size->w.cell? ⟨b,o,none⟩=W.cell? ⟨b,o,none⟩) (o:Obj) :
   Below W.heap.size W (w.alloc o)/\∀b o', b<W.heap.size->(w.alloc o).cell? ⟨b,o', none⟩=W.cell? ⟨b,o', none⟩:=kp_of (h.1.alloc h.1.size o)
end Go.Proofs.YtfaihaoajdcjbaaGreatDoor
