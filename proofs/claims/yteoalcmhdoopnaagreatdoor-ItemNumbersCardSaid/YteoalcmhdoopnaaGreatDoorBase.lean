/- Base: frames over the heap, association maps in the heap, linked rings of cells. No program in sight. -/
import Derived.WalkKit
import Derived.WalkSpells
import Derived.WalkLawsBesides
import Derived.Lib.Hide
import Derived.LaidEqlPtr
import Derived.Maps.AppendAt
import Derived.Deep.MidRow
import Derived.Laws.AppendOwnNone
namespace Go.Proofs.YteoalcmhdoopnaaGreatDoor
theorem Hd {p:Prop} (h:p):RowKit.Hid p:=Lib.hid h
open Go.RowKit
@[go_sem] theorem run_store_float' (P:Program) (w:World) (a:Addr) (m:Mode) (k:FloatKind) (n:Nat):(store a (.float k n) m).run P w=stored P w a (.float k n) m:=run_store P w a _ m rfl
structure Fr (S:Nat->Prop) (w w' : World):Prop where
 os:w'.os=w.os
 tape:w'.tape=w.tape
 output:w'.output=w.output
 size:w.heap.size<=w'.heap.size
 block:∀k,k<w.heap.size->¬S k->w'.heap[k]?=w.heap[k]?
theorem Fr.refl (S:Nat->Prop) (w:World):Fr S w w:=⟨rfl,rfl,rfl,Nat.le_refl _,fun _ _ _=>rfl⟩
theorem Fr.trans {S:Nat->Prop} {a b c:World} (h:Fr S a b) (k:Fr S b c):Fr S a c:=
 ⟨k.os.trans h.os,k.tape.trans h.tape,k.output.trans h.output,Nat.le_trans h.size k.size,
   fun i hi hS=>(k.block i (Nat.lt_of_lt_of_le hi h.size) hS).trans (h.block i hi hS)⟩
theorem Fr.drew {S:Nat->Prop} {a w:World} (h:Fr S a w):Fr S a w.drew:=⟨h.os,h.tape,h.output,h.size,h.block⟩
theorem Fr.alloc {S:Nat->Prop} {a w:World} (h:Fr S a w) (o:Obj):Fr S a (w.alloc o):=
 ⟨h.os,h.tape,h.output,by have:=h.size;simp;omega,fun k hk hS=>by
   rw [Below.heap_alloc w o k (Nat.lt_of_lt_of_le hk h.size)];exact h.block k hk hS⟩
theorem Fr.setCell {S:Nat->Prop} {a w:World} (h:Fr S a w) {p:Addr} (hp:p.block<a.heap.size->S p.block) (u:Value):Fr S a (w.setCell p u):=
 ⟨h.os,h.tape,h.output,by simpa using h.size,fun k hk hS=>by
   rw [Below.heap_setCell w p u k (fun e=>hS (by subst e;exact hp hk))];exact h.block k hk hS⟩
theorem Fr.cell {S:Nat->Prop} {w w' : World} (h:Fr S w w') {p:Addr} {v:Value} (hv:w.cell? p=some v) (hp:¬S p.block):w'.cell? p=some v:=by
 rw [World.cell?_of_block (w:=w) (h.block p.block (World.block_lt_of_cell? _ _ hv) hp)];exact hv
theorem Fr.below {S:Nat->Prop} {w w' : World} {B:Nat} (h:Fr S w w') (hB:B<=w.heap.size) (hS:∀i,i<B->¬S i):Below B w w' :=
 ⟨h.os,h.tape,h.output,h.size,fun k hk=>h.block k (Nat.lt_of_lt_of_le hk hB) (hS k hk)⟩
theorem Fr.of_below {w w' : World} {B:Nat} (h:Below B w w'):Fr (fun i=>B<=i) w w' :=
 ⟨h.os,h.tape,h.output,h.size,fun k _ hk=>h.block k (by omega)⟩
theorem Ab {w:World} {a b:Addr} {v:Value} (h:a≠b):(w.setCell a v).cell? b=w.cell? b:=by
 apply World.cell?_setCell_other;exact h
theorem Ar {w:World} {a:Addr} {u v:Value} (h:w.cell? a=some u):(w.setCell a v).cell? a=some v:=by
 apply World.cell?_setCell_same;exact h
section maps
variable {κ:Type} [DecidableEq κ]
theorem ba_beq (a b:ByteArray):(a == b)=decide (a=b):=by
 show (a.data == b.data)=_;rw [Bool.eq_iff_iff,beq_iff_eq,decide_eq_true_iff];cases a;cases b;simp
instance:LawfulBEq ByteArray where
 rfl:=by intro a;rw [ba_beq];simp
 eq_of_beq:=by intro a b h;rw [ba_beq] at h;simpa using h
end maps
def Blk (w:World) (b:Nat):Prop:=∃c t,w.heap[b]?=some (.cells c t (0,0))
theorem Blk.frz {w:World} {b:Nat} (h:Blk w b) (o:Nat) (s:Option Nat):w.frozen? ⟨b,o,s⟩=false:=by
 obtain ⟨c,t,h⟩:=h;simp [World.frozen?,h]
theorem Blk.lt {w:World} {b:Nat} (h:Blk w b):b<w.heap.size:=by
 obtain ⟨c,t,h⟩:=h;exact (Array.getElem?_eq_some_iff.1 h).1
theorem Blk.setCell {w:World} {b:Nat} (h:Blk w b) (a:Addr) (v:Value):Blk (w.setCell a v) b:=by
 obtain ⟨c,t,h⟩:=h;simp only [Blk,World.setCell,Array.getElem?_modify];split
 · simp [h]
 · exact ⟨c,t,h⟩
theorem Blk.of_block {w w' : World} {b:Nat} (h:Blk w b) (e:w'.heap[b]?=w.heap[b]?):Blk w' b:=let ⟨c,t,h⟩:=h;⟨c,t,e.trans h⟩
theorem Blk.fr {w w' : World} {b:Nat} {S:Nat->Prop} (h:Blk w b) (hf:Fr S w w') (hS:¬S b):Blk w' b:=h.of_block (hf.block b h.lt hS)
theorem Blk.new (w:World) (c:Array Value) (t:TypeId):Blk (w.alloc (.cells c t)) w.heap.size:=⟨c,t,by show (w.heap.push _)[w.heap.size]?=_;simp⟩
theorem Blk.drew {w:World} {b:Nat} (h:Blk w b):Blk w.drew b:=h
theorem Dl {a b:ByteArray} (h:a.toList=b.toList):a=b:=by
 rw [ByteArray.toList_eq,ByteArray.toList_eq] at h;exact ByteArray.ext (Array.toList_inj.mp h)
theorem str_beq (a b:ByteArray):(a.toList == b.toList)=decide (a=b):=by
 by_cases h:a=b
 · subst h;simp
 · have:¬a.toList=b.toList:=fun e=>h (Dl e)
   simp [h,this]
theorem str_ne {a b:ByteArray} (h:a≠b):(a.toList == b.toList)=false:=by rw [str_beq];simpa using h
theorem str_eq {a b:ByteArray} (h:a=b):(a.toList == b.toList)=true:=by rw [str_beq];simpa using h
def Reads (w:World) (size:Nat) (v:Value) (n:Nat) (xs:List Value):Prop:=
 ∃a cap,v=.slice a n cap/\xs.length=n * size/\∀j u,xs[j]?=some u->∃b o,a=some ⟨b,o,none⟩/\w.cell? ⟨b,o+j,none⟩=some u
theorem Reads.of_owns {w:World} {base:Nat} {e:TypeId} {size:Nat} {v:Value} {n:Nat} {xs:List Value} (h:w.ownsRow base e size v n xs):Reads w size v n xs:=by
 obtain ⟨hl,h⟩:=h;rcases h with ⟨rfl,rfl⟩ | ⟨g,cap,cur,rfl,hg,hh,hn,hm,hc,rfl⟩
 · refine ⟨none,0,rfl,hl,fun j u hj=>?_⟩
   have:xs=[]:=by simpa using hl
   subst this;simp at hj
 · refine ⟨some ⟨g,0,none⟩,cap,rfl,hl,fun j u hj=>⟨g,0,rfl,?_⟩⟩
   have hlt:j<n * size:=by
     have:=(List.getElem?_eq_some_iff.1 hj).1;omega
   rw [List.getElem?_take_of_lt hlt] at hj;simpa [World.cell?,hh] using hj
theorem Reads.fr {w w' : World} {size:Nat} {v:Value} {n:Nat} {xs:List Value} (h:Reads w size v n xs) {S:Nat->Prop} (hf:Fr S w w') (hS:∀a m c,v=.slice (some a) m c->¬S a.block):Reads w' size v n xs:=by
 obtain ⟨a,cap,rfl,hl,h⟩:=h;exact ⟨a,cap,rfl,hl,fun j u hj=>let ⟨b,o,ha,hc⟩:=h j u hj;⟨b,o,ha,hf.cell hc (hS ⟨b,o,none⟩ n cap (by rw [ha]))⟩⟩
def Elem (P:Program) (t e:TypeId) (size bytes:Nat):Prop:=
 P.underlying t=some (.slice e)/\0<size/\bytes<=100000/\∃i z,P.info? e=some i/\i.zero=some z/\i.size=size/\i.bytes=bytes/\z.cells.size=size
theorem elem_of {P:Program} {t e:TypeId} {size bytes:Nat} (ht:P.underlying t=some (.slice e)) (hs:0<size) (hb:bytes<=100000)
   (h:(P.info? e).map (fun i=>(i.zero.map (·.cells.size),i.size,i.bytes))=some (some size,size,bytes)):Elem P t e size bytes:=by
 obtain ⟨i,hi,hz⟩:=Option.map_eq_some_iff.1 h
 simp only [Prod.mk.injEq] at hz
 obtain ⟨h1,h2,h3⟩:=hz
 obtain ⟨z,hz,h4⟩:=Option.map_eq_some_iff.1 h1
 exact ⟨ht,hs,hb,i,z,hi,hz,h2,h3,h4⟩
theorem Fr.of_grown {w w' : World} {row:Option Nat} (h:w.grownBy w' row):Fr (fun k=>row=some k) w w' :=
 ⟨h.os,h.tape,h.output,h.size,fun k hk hS=>h.block k hk (fun e=>hS e.symm)⟩
theorem owns_fr {w w' : World} {base e size n:Nat} {v:Value} {xs:List Value} {S:Nat->Prop} (h:w.ownsRow base e size v n xs) (hf:Fr S w w') (hS:∀k,v.ownBlock=some k->¬S k):w'.ownsRow base e size v n xs:=by
 obtain ⟨h1,h2⟩:=h;refine ⟨h1,?_⟩;rcases h2 with h2 | ⟨g,cap,cur,hv,hg,hh,r⟩
 · exact Or.inl h2
 · refine Or.inr ⟨g,cap,cur,hv,hg,?_,r⟩
   rw [hf.block g (Array.getElem?_eq_some_iff.1 hh).1 (hS g (by rw [hv];rfl))];exact hh
theorem Bw {w:World} {base e size n:Nat} {v:Value} {xs:List Value} (h:w.ownsRow base e size v n xs):∀k,v.ownBlock=some k->base<=k/\k<w.heap.size:=h.lt
theorem Below.of_append {w w0 w' : World} {v:Value} {B:Nat} (h:Below B w w0) (hf:Fr (fun k=>v.ownBlock=some k) w0 w') (hv:∀k,v.ownBlock=some k->B<=k) (hB:B<=w0.heap.size):Below B w w' :=
 h.trans (hf.below hB (fun i hi e=>by have:=hv i e;omega))
theorem Reads.len {w:World} {size:Nat} {a:Option Addr} {n m cap:Nat} {xs:List Value} (h:Reads w size (.slice a n cap) m xs):m=n/\xs.length=n * size:=by
 obtain ⟨a', cap', h1,h2,_⟩:=h;cases h1
 exact ⟨rfl,h2⟩
theorem Reads.at {w:World} {size:Nat} {a:Option Addr} {n m cap:Nat} {xs:List Value} (h:Reads w size (.slice a n cap) m xs) {j:Nat} (hj:j<xs.length):∃b o,a=some ⟨b,o,none⟩/\∀j u,xs[j]?=some u->w.cell? ⟨b,o+j,none⟩=some u:=by
 obtain ⟨a', cap', h1,h2,h3⟩:=h;cases h1
 obtain ⟨b,o,ha,_⟩:=h3 j xs[j] (by simp [hj]);refine ⟨b,o,ha,fun j u hu=>?_⟩;obtain ⟨b', o', ha', hc⟩:=h3 j u hu;rw [ha] at ha';cases ha'
 exact hc
theorem Reads.nil (w:World) (size:Nat) (a:Option Addr) (cap:Nat):Reads w size (.slice a 0 cap) 0 []:=⟨a,cap,rfl,by simp,fun j u h=>by simp at h⟩
theorem Reads.of_same {w w' : World} {size:Nat} {v:Value} {n:Nat} {xs:List Value} (h:Reads w size v n xs) (hw:∀a v,w.cell? a=some v->w'.cell? a=some v):Reads w' size v n xs:=by
 obtain ⟨a,cap,rfl,hl,h⟩:=h;exact ⟨a,cap,rfl,hl,fun j u hj=>let ⟨b,o,ha,hc⟩:=h j u hj;⟨b,o,ha,hw _ _ hc⟩⟩
theorem Reads.below {w w' : World} {size:Nat} {v:Value} {n:Nat} {xs:List Value} (h:Reads w size v n xs) (hb:Below w.heap.size w w'):Reads w' size v n xs:=
 h.of_same fun a v hc=>by rw [hb.cell (World.block_lt_of_cell? _ _ hc)];exact hc
theorem Below.drewN {B m:Nat} {w w' : World} (h:Below B w w'):Below B w (w'.drewN m):=by
 induction m with
 | zero=>exact h
 | succ m ih=>first | exact ih.drew | simpa [World.drewN] using ih.drew
theorem owns_empty (w:World) (e size:Nat):(w.alloc (.cells #[] e)).ownsRow w.heap.size e size (.slice (some ⟨w.heap.size,0,none⟩) 0 0) 0 []:=
 ⟨by simp,Or.inr ⟨w.heap.size,0,#[],rfl,Nat.le_refl _,by show (w.heap.push _)[w.heap.size]?=_;simp,Nat.le_refl _,by unfold maxLen;omega,by simp,by simp⟩⟩
theorem Reads.shape {w:World} {size:Nat} {v:Value} {n:Nat} {xs:List Value} (h:Reads w size v n xs):∃a cap,v=.slice a n cap:=let ⟨a,cap,e,_⟩:=h;⟨a,cap,e⟩
theorem append_many {P:Program} {w0:World} {ops:Array Oper} {rest:List Oper} {o:Oper} {a:Act} {Q:Exit->Act->World->Prop} {s x:Operand} {t e base size bytes n m cx:Nat} {ax:Option Addr} {v:Value} {xs news:List Value}
   (hgd:o.guard=none) (ho:o.op=.call { callee:=.builtin .append,args:=#[s,x],argTypes:=#[t,t] }) (E:Elem P t e size bytes)
   (hs:a.eval s=v) (hown:w0.ownsRow base e size v n xs) (hx:a.eval x=.slice ax m cx) (hr:Reads w0 size (.slice ax m cx) m news) (hnil:ax=none->cx=0) (h1:news.all (fun u=>u.oneCell')=true)
   (hn:n+m<1000000000) (hbase:base<=w0.heap.size)
   (h:∀v' w', w'.ownsRow base e size v' (n+m) (xs++news)->Fr (fun k=>v.ownBlock=some k) w0 w' -> (∀k,v'.ownBlock=some k->v.ownBlock=some k\/w0.heap.size<=k)->wpList P ops Q rest (a.put o.dst v') w'):wpList P ops Q (o :: rest) a w0:=by
 obtain ⟨ht,hsz,hb,i,z,hi,hz,hi1,hi2,hz1⟩:=E
 have hl:=hr.len.2
 cases ax with
 | none=>
   have hm:m=0:=by
     rcases Nat.eq_zero_or_pos m with h | h
     · exact h
     · have:0<news.length:=by rw [hl];exact Nat.mul_pos h hsz
       obtain ⟨b,o', ha,_⟩:=hr.at this;cases ha
   subst hm;have:news=[]:=by simpa using hl
   subst this;rw [hnil rfl] at hx;refine wpList_append_own_none hgd s x t ho base e i size ht hi v n xs hs hown hx (h v w0 (by simpa using hown) (Fr.refl _ _) (fun k hk=>Or.inl hk))
 | some ad=>
   refine wpList_append_own_at _ hgd s x t ho base e i z size bytes ht hi hz hi1 hi2 hz1 hsz v n xs hs hown ad m cx news hx hl ?_ (fun u hu=>List.all_eq_true.1 h1 u hu) (by unfold maxLen;omega) ?_ hbase ?_
   · intro j u hj
     obtain ⟨b,o', ha,hc⟩:=hr.at (List.getElem?_eq_some_iff.1 hj).1;cases ha
     have:=hc j u hj;unfold Addr.add;split
     · rename_i h;rw [h] at this;simpa using this
     · exact this
   · have:(n+m) * bytes<=1000000000 * 100000:=Nat.mul_le_mul (by omega) hb
     omega
   · intro v' w' g1 g2 _ g4
     refine h v' w' g1 (Fr.of_grown g2) (fun k hk=>?_);rcases g4 with g4 | g4
     · exact Or.inl (g4 ▸ hk)
     · rw [g4] at hk;simp at hk;exact Or.inr (by omega)
end Go.Proofs.YteoalcmhdoopnaaGreatDoor
