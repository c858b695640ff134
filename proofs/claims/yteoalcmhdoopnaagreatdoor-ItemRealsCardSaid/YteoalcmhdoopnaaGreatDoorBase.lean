/- Base: frames over the heap, association maps in the heap, linked rings of cells. No program in sight. -/
import Derived.WalkKit
import Derived.WalkSpells
import Derived.WalkLawsBesides
import Derived.Lib.Hide
import Derived.LaidEqlPtr
import Derived.Maps.AppendAt
import Derived.Deep.MidRow
import Derived.Laws.AppendOwnNone
namespace Go.Proofs.YteoalcmhdoopnaaGreatDoor
theorem Hd {p:Prop} (h:p):RowKit.Hid p:=Lib.hid h
open Go.RowKit
@[go_sem] theorem run_store_float' (P:Program) (w:World) (a:Addr) (m:Mode) (k:FloatKind) (n:Nat):(store a (.float k n) m).run P w=stored P w a (.float k n) m:=run_store P w a _ m rfl
structure Fr (S:Nat->Prop) (w w' : World):Prop where
 os:w'.os=w.os
 tape:w'.tape=w.tape
 output:w'.output=w.output
 size:w.heap.size<=w'.heap.size
 block:∀k,k<w.heap.size->¬S k->w'.heap[k]?=w.heap[k]?
theorem Fr.refl (S:Nat->Prop) (w:World):Fr S w w:=⟨rfl,rfl,rfl,Nat.le_refl _,fun _ _ _=>rfl⟩
theorem Fr.trans {S:Nat->Prop} {a b c:World} (h:Fr S a b) (k:Fr S b c):Fr S a c:=
 ⟨k.os.trans h.os,k.tape.trans h.tape,k.output.trans h.output,Nat.le_trans h.size k.size,
   fun i hi hS=>(k.block i (Nat.lt_of_lt_of_le hi h.size) hS).trans (h.block i hi hS)⟩
theorem Fr.mono {S T:Nat->Prop} {w w' : World} (h:Fr S w w') (hST:∀i,i<w.heap.size->S i->T i):Fr T w w' :=
 ⟨h.os,h.tape,h.output,h.size,fun k hk hT=>h.block k hk (fun s=>hT (hST k hk s))⟩
theorem Fr.drew {S:Nat->Prop} {a w:World} (h:Fr S a w):Fr S a w.drew:=⟨h.os,h.tape,h.output,h.size,h.block⟩
theorem Fr.alloc {S:Nat->Prop} {a w:World} (h:Fr S a w) (o:Obj):Fr S a (w.alloc o):=
 ⟨h.os,h.tape,h.output,by have:=h.size;simp;omega,fun k hk hS=>by
   rw [Below.heap_alloc w o k (Nat.lt_of_lt_of_le hk h.size)];exact h.block k hk hS⟩
theorem Fr.setCell {S:Nat->Prop} {a w:World} (h:Fr S a w) {p:Addr} (hp:p.block<a.heap.size->S p.block) (u:Value):Fr S a (w.setCell p u):=
 ⟨h.os,h.tape,h.output,by simpa using h.size,fun k hk hS=>by
   rw [Below.heap_setCell w p u k (fun e=>hS (by subst e;exact hp hk))];exact h.block k hk hS⟩
theorem Fr.cell {S:Nat->Prop} {w w' : World} (h:Fr S w w') {p:Addr} {v:Value} (hv:w.cell? p=some v) (hp:¬S p.block):w'.cell? p=some v:=by
 rw [World.cell?_of_block (w:=w) (h.block p.block (World.block_lt_of_cell? _ _ hv) hp)];exact hv
theorem Fr.below {S:Nat->Prop} {w w' : World} {B:Nat} (h:Fr S w w') (hB:B<=w.heap.size) (hS:∀i,i<B->¬S i):Below B w w' :=
 ⟨h.os,h.tape,h.output,h.size,fun k hk=>h.block k (Nat.lt_of_lt_of_le hk hB) (hS k hk)⟩
theorem Fr.of_below {w w' : World} {B:Nat} (h:Below B w w'):Fr (fun i=>B<=i) w w' :=
 ⟨h.os,h.tape,h.output,h.size,fun k _ hk=>h.block k (by omega)⟩
theorem Ab {w:World} {a b:Addr} {v:Value} (h:a≠b):(w.setCell a v).cell? b=w.cell? b:=by
 apply World.cell?_setCell_other;exact h
theorem Ao {w:World} {a:Addr} {u v:Value} (h:w.cell? a=some u):(w.setCell a v).cell? a=some v:=by
 apply World.cell?_setCell_same;exact h
section maps
variable {κ:Type} [DecidableEq κ]
structure KeyEmb (κ:Type) [DecidableEq κ] where
 emb:κ->Value
 kind:TypeDesc
 same:∀a b,Instr.sameNow kind (emb a) (emb b)=some (decide (a=b))
 bits:∀n a,Instr.sameBits n (emb a) (emb a)=true
 plain:∀(n:Nat) (t:TypeId) (P:Program) (w:World) (b:Bool) (a:κ),P.underlying t=some kind->(Instr.checkKey b (n+1) t (emb a)).run P w=.ok () w
theorem ba_beq (a b:ByteArray):(a == b)=decide (a=b):=by
 show (a.data == b.data)=_;rw [Bool.eq_iff_iff,beq_iff_eq,decide_eq_true_iff];cases a;cases b;simp
instance:LawfulBEq ByteArray where
 rfl:=by intro a;rw [ba_beq];simp
 eq_of_beq:=by intro a b h;rw [ba_beq] at h;simpa using h
structure AMap (K:KeyEmb κ) (w:World) (m:Nat) (l:List (κ × Value)):Prop where
 nodup:(l.map (·.1)).Nodup
 held:∃es clock,w.heap[m]?=some (.map es clock)/\es.toList.map (fun e=>(e.key,e.val))=l.map (fun p=>(K.emb p.1,p.2)) /\
   es.toList.Pairwise (fun x y=>x.born<y.born)/\∀e∈es.toList,e.born<clock
theorem AMap.lt {K:KeyEmb κ} {w:World} {m:Nat} {l:List (κ × Value)} (h:AMap K w m l):m<w.heap.size:=by
 obtain ⟨es,c,hm,_⟩:=h.held;exact (Array.getElem?_eq_some_iff.1 hm).1
theorem AMap.of_block {K:KeyEmb κ} {w w' : World} {m:Nat} {l:List (κ × Value)} (h:AMap K w m l) (hb:w'.heap[m]?=w.heap[m]?):AMap K w' m l:=
 ⟨h.nodup,let ⟨es,c,hm,r⟩:=h.held;⟨es,c,hb.trans hm,r⟩⟩
theorem AMap.fr {K:KeyEmb κ} {S:Nat->Prop} {w w' : World} {m:Nat} {l:List (κ × Value)} (h:AMap K w m l) (hf:Fr S w w') (hS:¬S m):AMap K w' m l:=
 h.of_block (hf.block m h.lt hS)
end maps
def Blk (w:World) (b:Nat):Prop:=∃c t,w.heap[b]?=some (.cells c t (0,0))
theorem Blk.frz {w:World} {b:Nat} (h:Blk w b) (o:Nat) (s:Option Nat):w.frozen? ⟨b,o,s⟩=false:=by
 obtain ⟨c,t,h⟩:=h;simp [World.frozen?,h]
theorem Blk.lt {w:World} {b:Nat} (h:Blk w b):b<w.heap.size:=by
 obtain ⟨c,t,h⟩:=h;exact (Array.getElem?_eq_some_iff.1 h).1
theorem Blk.setCell {w:World} {b:Nat} (h:Blk w b) (a:Addr) (v:Value):Blk (w.setCell a v) b:=by
 obtain ⟨c,t,h⟩:=h;simp only [Blk,World.setCell,Array.getElem?_modify];split
 · simp [h]
 · exact ⟨c,t,h⟩
theorem Blk.of_block {w w' : World} {b:Nat} (h:Blk w b) (e:w'.heap[b]?=w.heap[b]?):Blk w' b:=let ⟨c,t,h⟩:=h;⟨c,t,e.trans h⟩
theorem Blk.fr {w w' : World} {b:Nat} {S:Nat->Prop} (h:Blk w b) (hf:Fr S w w') (hS:¬S b):Blk w' b:=h.of_block (hf.block b h.lt hS)
theorem Blk.new (w:World) (c:Array Value) (t:TypeId):Blk (w.alloc (.cells c t)) w.heap.size:=⟨c,t,by show (w.heap.push _)[w.heap.size]?=_;simp⟩
theorem Blk.drew {w:World} {b:Nat} (h:Blk w b):Blk w.drew b:=h
theorem toList_inj' {a b:ByteArray} (h:a.toList=b.toList):a=b:=by
 rw [ByteArray.toList_eq,ByteArray.toList_eq] at h;exact ByteArray.ext (Array.toList_inj.mp h)
theorem str_beq (a b:ByteArray):(a.toList == b.toList)=decide (a=b):=by
 by_cases h:a=b
 · subst h;simp
 · have:¬a.toList=b.toList:=fun e=>h (toList_inj' e)
   simp [h,this]
theorem str_ne {a b:ByteArray} (h:a≠b):(a.toList == b.toList)=false:=by rw [str_beq];simpa using h
theorem str_eq {a b:ByteArray} (h:a=b):(a.toList == b.toList)=true:=by rw [str_beq];simpa using h
def Reads (w:World) (size:Nat) (v:Value) (n:Nat) (xs:List Value):Prop:=
 ∃a cap,v=.slice a n cap/\xs.length=n * size/\∀j u,xs[j]?=some u->∃b o,a=some ⟨b,o,none⟩/\w.cell? ⟨b,o+j,none⟩=some u
theorem Reads.fr {w w' : World} {size:Nat} {v:Value} {n:Nat} {xs:List Value} (h:Reads w size v n xs) {S:Nat->Prop} (hf:Fr S w w') (hS:∀a m c,v=.slice (some a) m c->¬S a.block):Reads w' size v n xs:=by
 obtain ⟨a,cap,rfl,hl,h⟩:=h;exact ⟨a,cap,rfl,hl,fun j u hj=>let ⟨b,o,ha,hc⟩:=h j u hj;⟨b,o,ha,hf.cell hc (hS ⟨b,o,none⟩ n cap (by rw [ha]))⟩⟩
def Elem (P:Program) (t e:TypeId) (size bytes:Nat):Prop:=
 P.underlying t=some (.slice e)/\0<size/\bytes<=100000/\∃i z,P.info? e=some i/\i.zero=some z/\i.size=size/\i.bytes=bytes/\z.cells.size=size
theorem elem_of {P:Program} {t e:TypeId} {size bytes:Nat} (ht:P.underlying t=some (.slice e)) (hs:0<size) (hb:bytes<=100000)
   (h:(P.info? e).map (fun i=>(i.zero.map (·.cells.size),i.size,i.bytes))=some (some size,size,bytes)):Elem P t e size bytes:=by
 obtain ⟨i,hi,hz⟩:=Option.map_eq_some_iff.1 h
 simp only [Prod.mk.injEq] at hz
 obtain ⟨h1,h2,h3⟩:=hz
 obtain ⟨z,hz,h4⟩:=Option.map_eq_some_iff.1 h1
 exact ⟨ht,hs,hb,i,z,hi,hz,h2,h3,h4⟩
theorem Fr.of_grown {w w' : World} {row:Option Nat} (h:w.grownBy w' row):Fr (fun k=>row=some k) w w' :=
 ⟨h.os,h.tape,h.output,h.size,fun k hk hS=>h.block k hk (fun e=>hS e.symm)⟩
theorem Cx {w:World} {base e size n:Nat} {v:Value} {xs:List Value} (h:w.ownsRow base e size v n xs):∀k,v.ownBlock=some k->base<=k/\k<w.heap.size:=h.lt
theorem Below.of_append {w w0 w' : World} {v:Value} {B:Nat} (h:Below B w w0) (hf:Fr (fun k=>v.ownBlock=some k) w0 w') (hv:∀k,v.ownBlock=some k->B<=k) (hB:B<=w0.heap.size):Below B w w' :=
 h.trans (hf.below hB (fun i hi e=>by have:=hv i e;omega))
theorem Reads.len {w:World} {size:Nat} {a:Option Addr} {n m cap:Nat} {xs:List Value} (h:Reads w size (.slice a n cap) m xs):m=n/\xs.length=n * size:=by
 obtain ⟨a', cap', h1,h2,_⟩:=h;cases h1
 exact ⟨rfl,h2⟩
theorem Reads.at {w:World} {size:Nat} {a:Option Addr} {n m cap:Nat} {xs:List Value} (h:Reads w size (.slice a n cap) m xs) {j:Nat} (hj:j<xs.length):∃b o,a=some ⟨b,o,none⟩/\∀j u,xs[j]?=some u->w.cell? ⟨b,o+j,none⟩=some u:=by
 obtain ⟨a', cap', h1,h2,h3⟩:=h;cases h1
 obtain ⟨b,o,ha,_⟩:=h3 j xs[j] (by simp [hj]);refine ⟨b,o,ha,fun j u hu=>?_⟩;obtain ⟨b', o', ha', hc⟩:=h3 j u hu;rw [ha] at ha';cases ha'
 exact hc
theorem Reads.nil (w:World) (size:Nat) (a:Option Addr) (cap:Nat):Reads w size (.slice a 0 cap) 0 []:=⟨a,cap,rfl,by simp,fun j u h=>by simp at h⟩
theorem Reads.of_same {w w' : World} {size:Nat} {v:Value} {n:Nat} {xs:List Value} (h:Reads w size v n xs) (hw:∀a v,w.cell? a=some v->w'.cell? a=some v):Reads w' size v n xs:=by
 obtain ⟨a,cap,rfl,hl,h⟩:=h;exact ⟨a,cap,rfl,hl,fun j u hj=>let ⟨b,o,ha,hc⟩:=h j u hj;⟨b,o,ha,hw _ _ hc⟩⟩
theorem Reads.below {w w' : World} {size:Nat} {v:Value} {n:Nat} {xs:List Value} (h:Reads w size v n xs) (hb:Below w.heap.size w w'):Reads w' size v n xs:=
 h.of_same fun a v hc=>by rw [hb.cell (World.block_lt_of_cell? _ _ hc)];exact hc
theorem Reads.drewN {w:World} {size:Nat} {v:Value} {n m:Nat} {xs:List Value} (h:Reads w size v n xs):Reads (w.drewN m) size v n xs:=h.of_same fun a v hc=>by simpa using hc
theorem Below.drewN {B m:Nat} {w w' : World} (h:Below B w w'):Below B w (w'.drewN m):=by
 induction m with
 | zero=>exact h
 | succ m ih=>first | exact ih.drew | simpa [World.drewN] using ih.drew
end Go.Proofs.YteoalcmhdoopnaaGreatDoor
