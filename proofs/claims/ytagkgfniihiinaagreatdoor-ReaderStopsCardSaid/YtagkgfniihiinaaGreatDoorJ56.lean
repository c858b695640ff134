/- Base: frames over the heap, association maps in the heap. -/
import Derived.WalkSpells
import Derived.WalkLawsBesides
import Derived.Lib.Hide
import Derived.Deep.MidRow
import Derived.Laws.AppendOwnNone
set_option linter.all false
namespace Go.Proofs.YtagkgfniihiinaaGreatDoor
theorem Hd {p:Prop} (h:p):RowKit.Hid p:=Lib.hid h
open Go.RowKit
@[go_sem] theorem run_store_float' (P:Program) (w:World) (a:Addr) (m:Mode) (k:FloatKind) (n:Nat):(store a (.float k n) m).run P w=stored P w a (.float k n) m:=run_store P w a _ m rfl
structure Fr (S:Nat->Prop) (w w' : World):Prop where
 os:w'.os=w.os
 tape:w'.tape=w.tape
 output:w'.output=w.output
 size:w.heap.size<=w'.heap.size
 block:∀k,k<w.heap.size->¬S k->w'.heap[k]?=w.heap[k]?
theorem Fr.refl (S:Nat->Prop) (w:World):Fr S w w:=⟨rfl,rfl,rfl,Nat.le_refl _,fun _ _ _=>rfl⟩
theorem Fr.trans {S:Nat->Prop} {a b c:World} (h:Fr S a b) (k:Fr S b c):Fr S a c:=
 ⟨k.os.trans h.os,k.tape.trans h.tape,k.output.trans h.output,Nat.le_trans h.size k.size,
  fun i hi hS=>(k.block i (Nat.lt_of_lt_of_le hi h.size) hS).trans (h.block i hi hS)⟩
theorem Fr.trans_new {S T:Nat->Prop} {a b c:World} (h:Fr S a b) (k:Fr T b c) (hT:∀i,i<a.heap.size->T i->S i):Fr S a c:=
 ⟨k.os.trans h.os,k.tape.trans h.tape,k.output.trans h.output,Nat.le_trans h.size k.size,
  fun i hi hS=>(k.block i (Nat.lt_of_lt_of_le hi h.size) (fun t=>hS (hT i hi t))).trans (h.block i hi hS)⟩
theorem Fr.mono {S T:Nat->Prop} {w w' : World} (h:Fr S w w') (hST:∀i,i<w.heap.size->S i->T i):Fr T w w' :=
 ⟨h.os,h.tape,h.output,h.size,fun k hk hT=>h.block k hk (fun s=>hT (hST k hk s))⟩
theorem Fr.drew {S:Nat->Prop} {a w:World} (h:Fr S a w):Fr S a w.drew:=⟨h.os,h.tape,h.output,h.size,h.block⟩
theorem Fr.setCell {S:Nat->Prop} {a w:World} (h:Fr S a w) {p:Addr} (hp:p.block<a.heap.size->S p.block) (u:Value):Fr S a (w.setCell p u):=
 ⟨h.os,h.tape,h.output,by simpa using h.size,fun k hk hS=>by
  rw [Below.heap_setCell w p u k (fun e=>hS (by subst e;exact hp hk))];exact h.block k hk hS⟩
theorem Fr.cell {S:Nat->Prop} {w w' : World} (h:Fr S w w') {p:Addr} {v:Value} (hv:w.cell? p=some v) (hp:¬S p.block):w'.cell? p=some v:=by
 rw [World.cell?_of_block (w:=w) (h.block p.block (World.block_lt_of_cell? _ _ hv) hp)];exact hv
theorem Fr.below {S:Nat->Prop} {w w' : World} {B:Nat} (h:Fr S w w') (hB:B<=w.heap.size) (hS:∀i,i<B->¬S i):Below B w w' :=
 ⟨h.os,h.tape,h.output,h.size,fun k hk=>h.block k (Nat.lt_of_lt_of_le hk hB) (hS k hk)⟩
theorem Fr.of_below {w w' : World} {B:Nat} (h:Below B w w'):Fr (fun i=>B<=i) w w' :=
 ⟨h.os,h.tape,h.output,h.size,fun k _ hk=>h.block k (by omega)⟩
theorem Ac {w:World} {a b:Addr} {v:Value} (h:a≠b):(w.setCell a v).cell? b=w.cell? b:=by
 apply World.cell?_setCell_other;exact h
theorem Ak {w:World} {a:Addr} {u v:Value} (h:w.cell? a=some u):(w.setCell a v).cell? a=some v:=by
 apply World.cell?_setCell_same;exact h
section maps
variable {κ:Type} [DecidableEq κ]
theorem ba_beq (a b:ByteArray):(a == b)=decide (a=b):=by
 show (a.data == b.data)=_;rw [Bool.eq_iff_iff,beq_iff_eq,decide_eq_true_iff];cases a;cases b;simp
instance:LawfulBEq ByteArray where
 rfl:=by intro a;rw [ba_beq];simp
 eq_of_beq:=by intro a b h;rw [ba_beq] at h;simpa using h
end maps
def Blk (w:World) (b:Nat):Prop:=∃c t,w.heap[b]?=some (.cells c t (0,0))
theorem Blk.frz {w:World} {b:Nat} (h:Blk w b) (o:Nat) (s:Option Nat):w.frozen? ⟨b,o,s⟩=false:=by
 obtain ⟨c,t,h⟩:=h;simp [World.frozen?,h]
theorem Blk.lt {w:World} {b:Nat} (h:Blk w b):b<w.heap.size:=by
 obtain ⟨c,t,h⟩:=h;exact (Array.getElem?_eq_some_iff.1 h).1
theorem Blk.setCell {w:World} {b:Nat} (h:Blk w b) (a:Addr) (v:Value):Blk (w.setCell a v) b:=by
 obtain ⟨c,t,h⟩:=h;simp only [Blk,World.setCell,Array.getElem?_modify];split
 ·simp [h]
 ·exact ⟨c,t,h⟩
theorem Blk.of_block {w w' : World} {b:Nat} (h:Blk w b) (e:w'.heap[b]?=w.heap[b]?):Blk w' b:=let ⟨c,t,h⟩:=h;⟨c,t,e.trans h⟩
theorem Blk.fr {w w' : World} {b:Nat} {S:Nat->Prop} (h:Blk w b) (hf:Fr S w w') (hS:¬S b):Blk w' b:=h.of_block (hf.block b h.lt hS)
theorem Blk.new (w:World) (c:Array Value) (t:TypeId):Blk (w.alloc (.cells c t)) w.heap.size:=⟨c,t,by show (w.heap.push _)[w.heap.size]?=_;simp⟩
theorem Blk.drew {w:World} {b:Nat} (h:Blk w b):Blk w.drew b:=h
theorem toList_inj' {a b:ByteArray} (h:a.toList=b.toList):a=b:=by
 rw [ByteArray.toList_eq,ByteArray.toList_eq] at h;exact ByteArray.ext (Array.toList_inj.mp h)
theorem str_beq (a b:ByteArray):(a.toList == b.toList)=decide (a=b):=by
 by_cases h:a=b
 ·subst h;simp
 ·have:¬a.toList=b.toList:=fun e=>h (toList_inj' e)
  simp [h,this]
theorem str_ne {a b:ByteArray} (h:a≠b):(a.toList == b.toList)=false:=by rw [str_beq];simpa using h
theorem str_eq {a b:ByteArray} (h:a=b):(a.toList == b.toList)=true:=by rw [str_beq];simpa using h
def Reads (w:World) (size:Nat) (v:Value) (n:Nat) (xs:List Value):Prop:=
 ∃a cap,v=.slice a n cap/\xs.length=n * size/\∀j u,xs[j]?=some u->∃b o,a=some ⟨b,o,none⟩/\w.cell? ⟨b,o+j,none⟩=some u
theorem Reads.of_owns {w:World} {base:Nat} {e:TypeId} {size:Nat} {v:Value} {n:Nat} {xs:List Value} (h:w.ownsRow base e size v n xs):Reads w size v n xs:=by
 obtain ⟨hl,h⟩:=h;rcases h with ⟨rfl,rfl⟩ | ⟨g,b,cur,rfl,hg,hh,hn,hm,hc,rfl⟩
 ·refine ⟨none,0,rfl,hl,fun j u hj=>?_⟩
  have:xs=[]:=by simpa using hl
  subst this;simp at hj
 ·refine ⟨some ⟨g,0,none⟩,b,rfl,hl,fun j u hj=>⟨g,0,rfl,?_⟩⟩
  have a:j<n * size:=by
   have:=(List.getElem?_eq_some_iff.1 hj).1;omega
  rw [List.getElem?_take_of_lt a] at hj;simpa [World.cell?,hh] using hj
def Elem (P:Program) (t e:TypeId) (size bytes:Nat):Prop:=
 P.underlying t=some (.slice e)/\0<size/\bytes<=100000/\∃i z,P.info? e=some i/\i.zero=some z/\i.size=size/\i.bytes=bytes/\z.cells.size=size
theorem elem_of {P:Program} {t e:TypeId} {size bytes:Nat} (ht:P.underlying t=some (.slice e)) (hs:0<size) (hb:bytes<=100000)
  (h:(P.info? e).map (fun i=>(i.zero.map (·.cells.size),i.size,i.bytes))=some (some size,size,bytes)):Elem P t e size bytes:=by
 obtain ⟨i,hi,hz⟩:=Option.map_eq_some_iff.1 h;simp only [Prod.mk.injEq] at hz;obtain ⟨h1,h2,h3⟩:=hz;obtain ⟨z,hz,h4⟩:=Option.map_eq_some_iff.1 h1;exact ⟨ht,hs,hb,i,z,hi,hz,h2,h3,h4⟩
theorem Fr.of_grown {w w' : World} {row:Option Nat} (h:w.grownBy w' row):Fr (fun k=>row=some k) w w' :=
 ⟨h.os,h.tape,h.output,h.size,fun k hk hS=>h.block k hk (fun e=>hS e.symm)⟩
theorem append_elem {P:Program} {w0:World} {ops:Array Oper} {rest:List Oper} {o:Oper} {a:Act} {Q:Exit->Act->World->Prop} {s x:Operand} {t e base size bytes n:Nat} {v:Value} {xs:List Value} {us:Array Value}
  (hgd:o.guard=none) (ho:o.op=.call { callee:=.builtin .append,args:=#[s,x],argTypes:=#[t,t] }) (E:Elem P t e size bytes)
  (hs:a.eval s=v) (hown:w0.ownsRow base e size v n xs) (hx:a.eval x=.slice (some ⟨w0.heap.size,0,none⟩) 1 1) (hus:us.size=size) (h1:us.toList.all (fun u=>u.oneCell')=true)
  (hn:n<1000000000) (hbase:base<=w0.heap.size)
  (h:∀v' w', w'.ownsRow base e size v' (n+1) (xs++us.toList)->Fr (fun k=>v.ownBlock=some k) w0 w' -> wpList P ops Q rest (a.put o.dst v') w'):wpList P ops Q (o :: rest) a (w0.alloc (.cells us e)):=by
 obtain ⟨ht,b,hb,i,z,hi,hz,c,d,f⟩:=E;refine wpList_append_own _ hgd s x t ho base e i z size bytes ht hi hz c d f b v n xs hs (hown.alloc _) ⟨w0.heap.size,0,none⟩ 1 1 us.toList hx (by simp [hus]) ?_ ?_ ?_ ?_ ?_ ?_
 ·intro j u hj
  have e1:(⟨w0.heap.size,0,none⟩:Addr).add j=⟨w0.heap.size,j,none⟩:=by
   unfold Addr.add;split
   ·rename_i h;rw [h]
   ·simp
  rw [e1,World.cell?_alloc_new];simpa using hj
 ·intro u hu;exact List.all_eq_true.1 h1 u hu
 ·unfold maxLen;omega
 ·have:(n+1) * bytes<=1000000000 * 100000:=Nat.mul_le_mul (by omega) hb
  omega
 ·simp;omega
 ·intro v' w' g1 g2 _
  refine h v' w' g1 ⟨g2.os,g2.tape,g2.output,by have:=g2.size;simp at this;omega,fun k hk hS=>?_⟩;rw [g2.block k (by simp;omega) (fun e=>hS e.symm),Below.heap_alloc _ _ _ hk]
theorem owns_fr {w w' : World} {base e size n:Nat} {v:Value} {xs:List Value} {S:Nat->Prop} (h:w.ownsRow base e size v n xs) (hf:Fr S w w') (hS:∀k,v.ownBlock=some k->¬S k):w'.ownsRow base e size v n xs:=by
 obtain ⟨h1,h2⟩:=h;refine ⟨h1,?_⟩;rcases h2 with h2 | ⟨g,a,b,hv,hg,hh,r⟩
 ·exact Or.inl h2
 ·refine Or.inr ⟨g,a,b,hv,hg,?_,r⟩
  rw [hf.block g (Array.getElem?_eq_some_iff.1 hh).1 (hS g (by rw [hv];rfl))];exact hh
theorem Au {w:World} {base e size n:Nat} {v:Value} {xs:List Value} (h:w.ownsRow base e size v n xs):∀k,v.ownBlock=some k->base<=k/\k<w.heap.size:=h.lt
theorem Below.of_append {w w0 w' : World} {v:Value} {B:Nat} (h:Below B w w0) (hf:Fr (fun k=>v.ownBlock=some k) w0 w') (hv:∀k,v.ownBlock=some k->B<=k) (hB:B<=w0.heap.size):Below B w w' :=
 h.trans (hf.below hB (fun i hi e=>by have:=hv i e;omega))
theorem Reads.len {w:World} {size:Nat} {a:Option Addr} {n m cap:Nat} {xs:List Value} (h:Reads w size (.slice a n cap) m xs):m=n/\xs.length=n * size:=by
 obtain ⟨a', cap', h1,h2,_⟩:=h;cases h1
 exact ⟨rfl,h2⟩
theorem Reads.at {w:World} {size:Nat} {a:Option Addr} {n m cap:Nat} {xs:List Value} (h:Reads w size (.slice a n cap) m xs) {j:Nat} (hj:j<xs.length):∃b o,a=some ⟨b,o,none⟩/\∀j u,xs[j]?=some u->w.cell? ⟨b,o+j,none⟩=some u:=by
 obtain ⟨a', cap', h1,h2,h3⟩:=h;cases h1
 obtain ⟨b,o,ha,_⟩:=h3 j xs[j] (by simp [hj]);refine ⟨b,o,ha,fun j u hu=>?_⟩;obtain ⟨b', o', c, hc⟩:=h3 j u hu;rw [ha] at c;cases c
 exact hc
theorem Below.drewN {B m:Nat} {w w' : World} (h:Below B w w'):Below B w (w'.drewN m):=by
 induction m with
 | zero=>exact h
 | succ m ih=>first | exact ih.drew | simpa [World.drewN] using ih.drew
theorem Reads.shape {w:World} {size:Nat} {v:Value} {n:Nat} {xs:List Value} (h:Reads w size v n xs):∃a cap,v=.slice a n cap:=let ⟨a,cap,e,_⟩:=h;⟨a,cap,e⟩
theorem append_elem_at {P:Program} {w0:World} {ops:Array Oper} {rest:List Oper} {o:Oper} {a:Act} {Q:Exit->Act->World->Prop} {s x:Operand} {t e base size bytes n:Nat} {v:Value} {xs:List Value} {us:Array Value}
  (hgd:o.guard=none) (ho:o.op=.call { callee:=.builtin .append,args:=#[s,x],argTypes:=#[t,t] }) (E:Elem P t e size bytes)
  (hs:a.eval s=v) (hown:w0.ownsRow base e size v n xs) (hx:a.eval x=.slice (some ⟨w0.heap.size,0,none⟩) 1 1) (hus:us.size=size) (h1:us.toList.all (fun u=>u.oneCell')=true)
  (hn:n<1000000000) (hbase:base<=w0.heap.size)
  (h:∀v' w', w'.ownsRow base e size v' (n+1) (xs++us.toList)->Fr (fun k=>v.ownBlock=some k) w0 w' -> (∀k,v'.ownBlock=some k->v.ownBlock=some k\/w0.heap.size<=k)->wpList P ops Q rest (a.put o.dst v') w'):wpList P ops Q (o :: rest) a (w0.alloc (.cells us e)):=by
 obtain ⟨ht,b,hb,i,z,hi,hz,c,d,f⟩:=E;refine wpList_append_own_at _ hgd s x t ho base e i z size bytes ht hi hz c d f b v n xs hs (hown.alloc _) ⟨w0.heap.size,0,none⟩ 1 1 us.toList hx (by simp [hus]) ?_ ?_ ?_ ?_ ?_ ?_
 ·intro j u hj
  have e1:(⟨w0.heap.size,0,none⟩:Addr).add j=⟨w0.heap.size,j,none⟩:=by
   unfold Addr.add;split
   ·rename_i h;rw [h]
   ·simp
  rw [e1,World.cell?_alloc_new];simpa using hj
 ·intro u hu;exact List.all_eq_true.1 h1 u hu
 ·unfold maxLen;omega
 ·have:(n+1) * bytes<=1000000000 * 100000:=Nat.mul_le_mul (by omega) hb
  omega
 ·simp;omega
 ·intro v' w' g1 g2 _ g4
  refine h v' w' g1 ⟨g2.os,g2.tape,g2.output,by have:=g2.size;simp at this;omega,fun k hk hS=>?_⟩ (fun k hk=>?_)
  ·rw [g2.block k (by simp;omega) (fun e=>hS e.symm),Below.heap_alloc _ _ _ hk]
  ·rcases g4 with g4 | g4
   ·exact Or.inl (g4 ▸ hk)
   ·rw [g4] at hk;simp at hk;exact Or.inr (by omega)
theorem range6 {w:World} {b o:Nat} {c0 c1 c2 c3 c4 c5:Value} (h0:w.cell? ⟨b,o,none⟩=some c0) (h1:w.cell? ⟨b,o+1,none⟩=some c1) (h2:w.cell? ⟨b,o+2,none⟩=some c2) (h3:w.cell? ⟨b,o+3,none⟩=some c3)
  (h4:w.cell? ⟨b,o+4,none⟩=some c4) (h5:w.cell? ⟨b,o+5,none⟩=some c5):w.rangeAt b o [c0,c1,c2,c3,c4,c5]:=by
 intro j v hv
 match j,hv with
 | 0,hv=>simp at hv;subst hv;exact h0
 | 1,hv=>simp at hv;subst hv;exact h1
 | 2,hv=>simp at hv;subst hv;exact h2
 | 3,hv=>simp at hv;subst hv;exact h3
 | 4,hv=>simp at hv;subst hv;exact h4
 | 5,hv=>simp at hv;subst hv;exact h5
 | j+6,hv=>simp at hv
theorem Af {w:World} {b n:Nat} {cs:List Value} (h:w.rangeAt b 0 cs) (hb:Blk w b) (hn:n=cs.length):w.there b 0 n:=fun j hj=>⟨h.isSome j (by omega),hb.frz _ none⟩
theorem Fr.setCells {S:Nat->Prop} {a:World} {b:Nat} (hp:b<a.heap.size->S b):∀(vs:List Value) (o:Nat) (w:World),Fr S a w->Fr S a (w.setCells b o vs)
 | [],_,_,h=>h
 | v :: vs,o,w,h=>by rw [World.setCells];exact Fr.setCells hp vs (o+1) _ (h.setCell hp v)
theorem Blk.setCells {b c:Nat}:∀(vs:List Value) (o:Nat) (w:World),Blk w c->Blk (w.setCells b o vs) c
 | [],_,_,h=>h
 | v :: vs,o,w,h=>by rw [World.setCells];exact Blk.setCells vs (o+1) _ (h.setCell _ _)
theorem B9 {fn:Func} {p:Tmp} {ty:TypeId} {tmps:Array Value} {P:Program} {w:World} {ad:Addr} {v:Value} (h:fn.results=#[.cell p ty]) (hp:tmps.getD p undef=.pointer (some ad)) (hl:(loadVar ty ad).run P w=.ok v w) :
  (results fn tmps).run P w=.ok v w:=by
 simp only [results,h];simp [Sem.run_bind,Result.andThen,asAddr,hl,show tmps[p]?.getD undef=.pointer (some ad) by simpa using hp]
theorem Fi {fn:Func} {p u:Tmp} {ty:TypeId} {tmps:Array Value} {P:Program} {w:World} {ad:Addr} {v:Value} (h:fn.results=#[.cell p ty,.tmp u]) (hp:tmps.getD p undef=.pointer (some ad)) (hl:(loadVar ty ad).run P w=.ok v w) :
  (results fn tmps).run P w=.ok (.tuple #[v,tmps.getD u undef]) w:=by
 simp only [results,h];simp [Sem.run_bind,Result.andThen,asAddr,hl,show tmps[p]?.getD undef=.pointer (some ad) by simpa using hp]
theorem kp_of {W w:World} (h:Below W.heap.size W w):Below W.heap.size W w/\∀b o,b<W.heap.size->w.cell? ⟨b,o,none⟩=W.cell? ⟨b,o,none⟩:=⟨h,fun b o hb=>h.cell (by exact hb)⟩
theorem kp_keep {W w w' : World} (h:Below W.heap.size W w/\∀b o,b<W.heap.size->w.cell? ⟨b,o,none⟩=W.cell? ⟨b,o,none⟩) (hb:Below w.heap.size w w') :
  Below W.heap.size W w' /\ ∀b o,b<W.heap.size->w'.cell? ⟨b,o,none⟩=W.cell? ⟨b,o,none⟩:=kp_of (h.1.trans (hb.mono h.1.size))
theorem kp_drew {W:World}:Below W.heap.size W W.drew/\∀b o,b<W.heap.size->W.drew.cell? ⟨b,o,none⟩=W.cell? ⟨b,o,none⟩:=kp_of (Below.drew (Below.refl _ _))
theorem kp_alloc {W w:World} (h:Below W.heap.size W w/\∀b o,b<W.heap.size->w.cell? ⟨b,o,none⟩=W.cell? ⟨b,o,none⟩) (o:Obj) :
  Below W.heap.size W (w.alloc o)/\∀b o', b<W.heap.size->(w.alloc o).cell? ⟨b,o', none⟩=W.cell? ⟨b,o', none⟩:=kp_of (h.1.alloc h.1.size o)
inductive V where
 | mk (kind:Int) (text:ByteArray) (int:Int) (real:Nat) (flag:Bool) (list:List V)
def V.kind:V->Int | .mk k _ _ _ _ _=>k
def V.text:V->ByteArray | .mk _ t _ _ _ _=>t
def V.int:V->Int | .mk _ _ i _ _ _=>i
def V.real:V->Nat | .mk _ _ _ r _ _=>r
def V.flag:V->Bool | .mk _ _ _ _ f _=>f
def V.list:V->List V | .mk _ _ _ _ _ l=>l
mutual
def V.count:V->Nat
 | .mk _ _ _ _ _ l=>V.countL l+1
def V.countL:List V->Nat
 | []=>0
 | x :: l=>x.count+V.countL l
end
theorem V.count_pos (v:V):1<=v.count:=by cases v;simp [V.count]
theorem V.countL_append (a b:List V):V.countL (a++b)=V.countL a+V.countL b:=by
 induction a with
 | nil=>simp [V.countL]
 | cons x a ih=>simp [V.countL,ih];omega
theorem V.count_mem {l:List V} {x:V} (h:x∈l):x.count<=V.countL l:=by
 induction l with
 | nil=>cases h
 | cons y l ih=>
  simp only [V.countL];rcases List.mem_cons.1 h with rfl | h
  ·omega
  ·have:=ih h;omega
theorem V.length_le (l:List V):l.length<=V.countL l:=by
 induction l with
 | nil=>simp
 | cons y l ih=>have:=y.count_pos;simp only [V.countL,List.length_cons];omega
theorem V.ind {C:V->Prop} (h:∀v:V,(∀x∈v.list,C x)->C v) (v:V):C v:=by
 have a:∀(n:Nat) (v:V),v.count<=n->C v:=by
  intro n;induction n with
  | zero=>intro v hv;have:=v.count_pos;omega
  | succ n ih=>
   intro v hv;refine h v fun x hx=>ih x ?_;cases v with
   | mk k t i r f l=>
    have:=V.count_mem hx;simp only [V.count,V.list] at hv this;omega
 exact a _ v (Nat.le_refl _)
mutual
def V.deep:V->Nat
 | .mk _ _ _ _ _ l=>V.deepL l
def V.deepL:List V->Nat
 | []=>0
 | x :: l=>max (x.deep+1) (V.deepL l)
end
def nanB (r:Nat):Bool:=FloatKind.f64.format.order r r != some .eq
def A9 (r:Nat):Nat:=if nanB r then 9221120237041090561 else r
mutual
def V.norm:V->V
 | .mk k t i r f l=>.mk k t i (A9 r) f (V.normL l)
def V.normL:List V->List V
 | []=>[]
 | x :: l=>x.norm :: V.normL l
end
theorem V.normL_map (l:List V):V.normL l=l.map V.norm:=by
 induction l with
 | nil=>rfl
 | cons x l ih=>simp [V.normL,ih]
def Ao (k:Int) (t:ByteArray) (i:Int) (r:Nat) (f:Bool) (a:Option Addr) (n cap:Nat):List Value:=
 [.int .i64 k,.string t,.int .i64 i,.float .f64 r,.bool f,.slice a n cap]
inductive RV (c:Addr->Option Value):List Value->V->Prop
 | mk (k:Int) (t:ByteArray) (i:Int) (r:Nat) (f:Bool) (a:Option Addr) (n cap:Nat) (l:List V) (css:List (List Value))
   (hn:n=l.length) (hcs:css.length=l.length) (hr:∀(j:Nat) (x:List Value),css[j]?=some x->∃b o,a=some ⟨b,o,none⟩/\∀(q:Nat) (u:Value),x[q]?=some u->c ⟨b,o+j * 6+q,none⟩=some u)
   (hl:∀(j:Nat) (x:List Value) (y:V),css[j]?=some x->l[j]?=some y->RV c x y):RV c (Ao k t i r f a n cap) (.mk k t i r f l)
theorem RV.out {c:Addr->Option Value} {cs:List Value} {v:V} (h:RV c cs v):∃(a:Option Addr) (cap:Nat) (css:List (List Value)),cs=Ao v.kind v.text v.int v.real v.flag a v.list.length cap/\css.length=v.list.length /\
  (∀(j:Nat) (x:List Value),css[j]?=some x->∃b o,a=some ⟨b,o,none⟩/\∀(q:Nat) (u:Value),x[q]?=some u->c ⟨b,o+j * 6+q,none⟩=some u) /\
  ∀(j:Nat) (x:List Value) (y:V),css[j]?=some x->v.list[j]?=some y->RV c x y:=by
 cases h with
 | mk k t i r f a n cap l css hn hcs hr hl=>exact ⟨a,cap,css,by simp [V.kind,V.text,V.int,V.real,V.flag,V.list,hn],hcs,hr,hl⟩
theorem RV.intro {c:Addr->Option Value} {v:V} (a:Option Addr) (cap:Nat) (css:List (List Value)) (hcs:css.length=v.list.length)
  (hr:∀(j:Nat) (x:List Value),css[j]?=some x->∃b o,a=some ⟨b,o,none⟩/\∀(q:Nat) (u:Value),x[q]?=some u->c ⟨b,o+j * 6+q,none⟩=some u)
  (hl:∀(j:Nat) (x:List Value) (y:V),css[j]?=some x->v.list[j]?=some y->RV c x y):RV c (Ao v.kind v.text v.int v.real v.flag a v.list.length cap) v:=by
 cases v with
 | mk k t i r f l=>exact RV.mk k t i r f a _ cap l css rfl hcs hr hl
theorem RV.mono {c c' : Addr->Option Value} {cs:List Value} {v:V} (h:RV c cs v) (hc:∀a u,c a=some u->c' a=some u):RV c' cs v:=by
 induction h with
 | mk k t i r f a n cap l css hn hcs hr hl ih=>
  exact RV.mk k t i r f a n cap l css hn hcs (fun j x hx=>let ⟨b,o,ha,hq⟩:=hr j x hx;⟨b,o,ha,fun q u hu=>hc _ _ (hq q u hu)⟩) ih
theorem RV.len6 {c:Addr->Option Value} {cs:List Value} {v:V} (h:RV c cs v):cs.length=6:=by
 obtain ⟨a,cap,css,rfl,_⟩:=h.out;rfl
theorem RV.leaf (c:Addr->Option Value) (k:Int) (t:ByteArray) (i:Int) (r:Nat) (f:Bool) (a:Option Addr) (cap:Nat):RV c (Ao k t i r f a 0 cap) (.mk k t i r f []):=
 RV.mk k t i r f a 0 cap [] [] rfl rfl (fun j x hx=>by simp at hx) (fun j x y hx=>by simp at hx)
theorem RV.elem {c:Addr->Option Value} {k:Int} {t:ByteArray} {i:Int} {r:Nat} {f:Bool} {a:Option Addr} {n cap:Nat} {v:V} (h:RV c (Ao k t i r f a n cap) v) {j:Nat} (hj:j<n) :
   ∃(b o:Nat) (hv:j<v.list.length) (a' : Option Addr) (cap' : Nat),a=some ⟨b,o,none⟩/\RV c (Ao v.list[j].kind v.list[j].text v.list[j].int v.list[j].real v.list[j].flag a' v.list[j].list.length cap') v.list[j] /\
     c ⟨b,o+j * 6,none⟩=some (.int .i64 v.list[j].kind)/\c ⟨b,o+j * 6+1,none⟩=some (.string v.list[j].text)/\c ⟨b,o+j * 6+2,none⟩=some (.int .i64 v.list[j].int)/\c ⟨b,o+j * 6+3,none⟩=some (.float .f64 v.list[j].real) /\
     c ⟨b,o+j * 6+4,none⟩=some (.bool v.list[j].flag)/\c ⟨b,o+j * 6+5,none⟩=some (.slice a' v.list[j].list.length cap'):=by
 obtain ⟨a0,cap0,e,he,hl,hr,hv⟩:=h.out;simp only [Ao,List.cons.injEq,Value.slice.injEq,and_true] at he;obtain ⟨_,_,_,_,_,rfl,hn,rfl⟩:=he;have g:j<v.list.length:=by omega
 have l:j<e.length:=by omega
 obtain ⟨b,o,ha,hq⟩:=hr j e[j] (by simp [l]);have hx:=hv j e[j] v.list[j] (by simp [l]) (by simp [g]);obtain ⟨a', cap', m, d, p, q, s⟩:=hx.out;refine ⟨b,o,g,a', cap', ha,RV.intro a' cap' m p q s, ?_,?_,?_,?_,?_,?_⟩
 · have:=hq 0 (.int .i64 v.list[j].kind) (by rw [d];rfl);simpa using this
 · exact hq 1 _ (by rw [d];rfl)
 · exact hq 2 _ (by rw [d];rfl)
 · exact hq 3 _ (by rw [d];rfl)
 · exact hq 4 _ (by rw [d];rfl)
 · exact hq 5 _ (by rw [d];rfl)
theorem RV.len {c:Addr->Option Value} {k:Int} {t:ByteArray} {i:Int} {r:Nat} {f:Bool} {a:Option Addr} {n cap:Nat} {v:V} (h:RV c (Ao k t i r f a n cap) v) :
  k=v.kind/\t=v.text/\i=v.int/\r=v.real/\f=v.flag/\n=v.list.length:=by
 obtain ⟨a0,cap0,css,he,_⟩:=h.out;simp only [Ao,List.cons.injEq,Value.int.injEq,Value.string.injEq,Value.float.injEq,Value.bool.injEq,Value.slice.injEq,and_true,true_and] at he;exact ⟨he.1,he.2.1,he.2.2.1,he.2.2.2.1,he.2.2.2.2.1,he.2.2.2.2.2.2.1⟩
def off (fp:List Nat) (w:World):Addr->Option Value:=fun a=>if a.block∈fp then none else w.cell? a
def Bh (B:Nat) (w:World):Addr->Option Value:=fun a=>if a.block<B then none else w.cell? a
theorem Dw {B:Nat} {w:World} {a:Addr} {u:Value} (h:Bh B w a=some u):w.cell? a=some u/\B<=a.block:=by
 unfold Bh at h;split at h
 ·cases h
 ·exact ⟨h,by omega⟩
theorem Gk {B:Nat} {w w' : World} (hb:Below w.heap.size w w'):∀a u,Bh B w a=some u->Bh B w' a=some u:=by
 intro a u hu;obtain ⟨h1,h2⟩:=Dw hu;unfold Bh;rw [if_neg (by omega),hb.cell (World.block_lt_of_cell? _ _ h1)];exact h1
theorem newer_all {B:Nat} {w:World}:∀a u,Bh B w a=some u->w.cell? a=some u:=fun a u h=>(Dw h).1
theorem Aa {w w' : World} (hb:Below w.heap.size w w'):∀a u,w.cell? a=some u->w'.cell? a=some u:=fun a u h=>by
 rw [hb.cell (World.block_lt_of_cell? _ _ h)];exact h
def nf (B:Nat) (own:Option Nat) (w:World):Addr->Option Value:=fun a=>if a.block<B\/own=some a.block then none else w.cell? a
theorem nf_cell {B:Nat} {own:Option Nat} {w:World} {a:Addr} {u:Value} (h:nf B own w a=some u):w.cell? a=some u/\B<=a.block/\own≠some a.block:=by
 unfold nf at h;split at h
 ·cases h
 ·rename_i hn;exact ⟨h,by omega,fun e=>hn (Or.inr e)⟩
theorem nf_mk {B:Nat} {own:Option Nat} {w:World} {a:Addr} {u:Value} (h:w.cell? a=some u) (h1:B<=a.block) (h2:own≠some a.block):nf B own w a=some u:=by
 unfold nf;rw [if_neg (fun hn=>by rcases hn with hn | hn;omega;exact h2 hn)];exact h
theorem nf_below {B:Nat} {own:Option Nat} {w w' : World} (hb:Below w.heap.size w w'):∀a u,nf B own w a=some u->nf B own w' a=some u:=fun a u h=>
 let ⟨h1,h2,h3⟩:=nf_cell h;nf_mk (Aa hb _ _ h1) h2 h3
theorem nf_append {B:Nat} {v v' : Value} {w w' : World} (hf:Fr (fun k=>v.ownBlock=some k) w w') (hn:∀k,v'.ownBlock=some k->v.ownBlock=some k\/w.heap.size<=k):∀a u,nf B v.ownBlock w a=some u->nf B v'.ownBlock w' a=some u:=fun a u h=>by
 obtain ⟨h1,h2,h3⟩:=nf_cell h;refine nf_mk (hf.cell h1 h3) h2 (fun e=>?_);rcases hn _ e with h | h
 ·exact h3 h
 ·have:=World.block_lt_of_cell? _ _ h1;omega
theorem nf_of_newer {B B' : Nat} {own:Option Nat} {w:World} (hB:B<=B') (ho:∀k,own=some k->k<B'):∀a u,Bh B' w a=some u->nf B own w a=some u:=fun a u h=>by
 obtain ⟨h1,h2⟩:=Dw h;exact nf_mk h1 (by omega) (fun e=>by have:=ho _ e;omega)
theorem nf_newer {B:Nat} {own:Option Nat} {w:World}:∀a u,nf B own w a=some u->Bh B w a=some u:=fun a u h=>by
 obtain ⟨h1,h2,_⟩:=nf_cell h;unfold Bh;rw [if_neg (by omega)];exact h1
theorem flat_at {size:Nat}:∀{css:List (List Value)},(∀x∈css,x.length=size)->∀(j:Nat) (x:List Value),css[j]?=some x->∀(q:Nat) (u:Value),x[q]?=some u->css.flatten[j * size+q]?=some u
 | [],_,j,x,h=>by simp at h
 | y :: css,hl,j,x,h=>by
  intro q u hu;have hy:=hl y (by simp);cases j with
  | zero=>
   simp at h;subst h;rw [List.flatten_cons,List.getElem?_append_left (by have:=(List.getElem?_eq_some_iff.1 hu).1;omega)];simpa using hu
  | succ j=>
   have:=flat_at (fun z hz=>hl z (List.mem_cons_of_mem _ hz)) j x (by simpa using h) q u hu;rw [List.flatten_cons,List.getElem?_append_right (by rw [hy,Nat.succ_mul];omega),hy,show (j+1) * size+q - size=j * size+q by rw [Nat.succ_mul];omega];exact this
theorem flat_len {size:Nat} {css:List (List Value)} (h:∀x∈css,x.length=size):css.flatten.length=css.length * size:=by
 induction css with
 | nil=>simp
 | cons x css ih=>
  rw [List.flatten_cons,List.length_append,h x (by simp),ih (fun y hy=>h y (List.mem_cons_of_mem _ hy)),List.length_cons,Nat.succ_mul];omega
def RVs (c:Addr->Option Value) (css:List (List Value)) (l:List V):Prop:=css.length=l.length/\∀(j:Nat) (x:List Value) (y:V),css[j]?=some x->l[j]?=some y->RV c x y
theorem RVs.nil (c:Addr->Option Value):RVs c [] []:=⟨rfl,fun j x y h=>by simp at h⟩
theorem RVs.mono {c c' : Addr->Option Value} {css:List (List Value)} {l:List V} (h:RVs c css l) (hc:∀a u,c a=some u->c' a=some u):RVs c' css l:=⟨h.1,fun j x y hx hy=>(h.2 j x y hx hy).mono hc⟩
theorem RVs.len6 {c:Addr->Option Value} {css:List (List Value)} {l:List V} (h:RVs c css l):∀x∈css,x.length=6:=by
 intro x hx;obtain ⟨j,hj,rfl⟩:=List.getElem_of_mem hx;have a : j<l.length:=h.1 ▸ hj;exact (h.2 j css[j] l[j] (by simp [hj]) (by simp [a])).len6
theorem RVs.snoc {c:Addr->Option Value} {css:List (List Value)} {l:List V} {x:List Value} {y:V} (h:RVs c css l) (hx:RV c x y):RVs c (css++[x]) (l++[y]):=by
 refine ⟨by simp [h.1],fun j x' y' h1 h2=>?_⟩;have hl:=h.1;by_cases hj:j<css.length
 ·rw [List.getElem?_append_left hj] at h1
  rw [List.getElem?_append_left (by omega)] at h2;exact h.2 j x' y' h1 h2
 ·rw [List.getElem?_append_right (by omega)] at h1 h2
  have e1:j - css.length=0:=by
   rcases Nat.eq_zero_or_pos (j - css.length) with e | e
   ·exact e
   ·rw [List.getElem?_eq_none (by simp;omega)] at h1;cases h1
  rw [e1] at h1;rw [show j - l.length=0 by omega] at h2;simp at h1 h2;subst h1;subst h2;exact hx
theorem RV.of_row {B:Nat} {w:World} {v:V} {e:TypeId} {a:Option Addr} {n cap:Nat} {css:List (List Value)} (hn:n=v.list.length) (hown:w.ownsRow B e 6 (.slice a n cap) n css.flatten) (hr:RVs (Bh B w) css v.list) :
  RV (Bh B w) (Ao v.kind v.text v.int v.real v.flag a n cap) v:=by
 subst hn;refine RV.intro a cap css hr.1 (fun j x hx=>?_) hr.2;have h6:=hr.len6;have hx6:x.length=6:=h6 x (List.mem_of_getElem? hx);have hR:=Reads.of_owns hown;obtain ⟨b,o,ha,hc⟩:=hR.at (j:=j * 6) (by rw [flat_len h6];have:=(List.getElem?_eq_some_iff.1 hx).1;omega);refine ⟨b,o,ha,fun q u hu=>?_⟩;have h1:=hc _ _ (flat_at h6 j x hx q u hu);have h2:=Au hown b (by rw [ha];rfl);unfold Bh;rw [if_neg (by have:=h2.1;simp;omega),show o+j * 6+q=o+(j * 6+q) by omega];exact h1
theorem V.norm_eq (u v:V):u.norm=v.norm ↔ u.kind=v.kind/\u.text=v.text/\u.int=v.int/\A9 u.real=A9 v.real/\u.flag=v.flag/\u.list.map V.norm=v.list.map V.norm:=by
 cases u;cases v
 simp only [V.norm,V.mk.injEq,V.normL_map,V.kind,V.text,V.int,V.real,V.flag,V.list]
theorem RV.elem' {c:Addr->Option Value} {a:Option Addr} {n cap:Nat} {v:V} (h:RV c (Ao v.kind v.text v.int v.real v.flag a n cap) v) {j:Nat} (hj:j<n) :
   ∃(x:V) (b o:Nat) (a' : Option Addr) (cap' : Nat),v.list[j]?=some x/\x∈v.list/\a=some ⟨b,o,none⟩/\RV c (Ao x.kind x.text x.int x.real x.flag a' x.list.length cap') x /\
     c ⟨b,o+j * 6,none⟩=some (.int .i64 x.kind)/\c ⟨b,o+j * 6+1,none⟩=some (.string x.text)/\c ⟨b,o+j * 6+2,none⟩=some (.int .i64 x.int)/\c ⟨b,o+j * 6+3,none⟩=some (.float .f64 x.real) /\
     c ⟨b,o+j * 6+4,none⟩=some (.bool x.flag)/\c ⟨b,o+j * 6+5,none⟩=some (.slice a' x.list.length cap'):=by
 obtain ⟨b,o,hv,a', cap', h1,h2,h3⟩:=h.elem hj;exact ⟨v.list[j],b,o,a', cap', by simp [hv],List.getElem_mem hv,h1,h2,h3⟩
theorem V.count_list_lt (v:V):V.countL v.list<v.count:=by cases v;simp only [V.count,V.list];omega
theorem map_take_snoc {l l' : List V} {k:Nat} {x y:V} (hx:l[k]?=some x) (hy:l'[k]?=some y) (h:(l.take k).map V.norm=(l'.take k).map V.norm) :
  (l.take (k+1)).map V.norm=(l'.take (k+1)).map V.norm ↔ x.norm=y.norm:=by
 obtain ⟨h1,e1⟩:=List.getElem?_eq_some_iff.1 hx;obtain ⟨h2,e2⟩:=List.getElem?_eq_some_iff.1 hy;rw [List.take_succ_eq_append_getElem h1,List.take_succ_eq_append_getElem h2,List.map_append,List.map_append,h,List.append_cancel_left_eq];simp [e1,e2]
theorem map_take_of {l l' : List V} (h:l.map V.norm=l'.map V.norm) (k:Nat):(l.take k).map V.norm=(l'.take k).map V.norm:=by
 rw [List.map_take,List.map_take,h]
