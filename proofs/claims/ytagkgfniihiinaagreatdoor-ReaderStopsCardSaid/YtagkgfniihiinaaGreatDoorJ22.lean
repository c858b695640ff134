/- As append_elem: the row as long as there is room. -/
import Derived.Test.YtagkgfniihiinaaGreatDoorJ56
import Derived.Test.YtagkgfniihiinaaGreatDoorProg
import Derived.Lib.SmallJoins
set_option linter.all false
namespace Go.Proofs.YtagkgfniihiinaaGreatDoor
open Go.RowKit
theorem append_room {P:Program} {w0:World} {ops:Array Oper} {rest:List Oper} {o:Oper} {a:Act} {Q:Exit->Act->World->Prop} {s x:Operand} {t e base size bytes n:Nat} {v:Value} {xs:List Value} {us:Array Value}
  (hgd:o.guard=none) (ho:o.op=.call { callee:=.builtin .append,args:=#[s,x],argTypes:=#[t,t] }) (E:Elem P t e size bytes)
  (hs:a.eval s=v) (hown:w0.ownsRow base e size v n xs) (hx:a.eval x=.slice (some ⟨w0.heap.size,0,none⟩) 1 1) (hus:us.size=size) (h1:us.toList.all (fun u=>u.oneCell')=true)
  (hn:n+1<=140737488355328) (hn2:(n+1) * bytes<=140737488355328) (hbase:base<=w0.heap.size)
  (h:∀v' w', w'.ownsRow base e size v' (n+1) (xs++us.toList)->Fr (fun k=>v.ownBlock=some k) w0 w' -> wpList P ops Q rest (a.put o.dst v') w'):wpList P ops Q (o :: rest) a (w0.alloc (.cells us e)):=by
 obtain ⟨ht,b,hb,i,z,hi,hz,c,d,f⟩:=E;refine wpList_append_own _ hgd s x t ho base e i z size bytes ht hi hz c d f b v n xs hs (hown.alloc _) ⟨w0.heap.size,0,none⟩ 1 1 us.toList hx (by simp [hus]) ?_ ?_ ?_ ?_ ?_ ?_
 ·intro j u hj
  have e1:(⟨w0.heap.size,0,none⟩:Addr).add j=⟨w0.heap.size,j,none⟩:=by
   unfold Addr.add;split
   ·rename_i h;rw [h]
   ·simp
  rw [e1,World.cell?_alloc_new];simpa using hj
 ·intro u hu;exact List.all_eq_true.1 h1 u hu
 ·unfold maxLen;omega
 ·exact hn2
 ·simp;omega
 ·intro v' w' g1 g2 _
  refine h v' w' g1 ⟨g2.os,g2.tape,g2.output,by have:=g2.size;simp at this;omega,fun k hk hS=>?_⟩;rw [g2.block k (by simp;omega) (fun e=>hS e.symm),Below.heap_alloc _ _ _ hk]
theorem owns_below {w w' : World} {B base e size n:Nat} {v:Value} {xs:List Value} (h:w.ownsRow base e size v n xs) (hb:Below B w w') (hB:w.heap.size<=B):w'.ownsRow base e size v n xs:=by
 refine ⟨h.1,?_⟩;rcases h.2 with h2 | ⟨g,a,b,e1,e2,e3,e4⟩
 ·exact Or.inl h2
 ·refine Or.inr ⟨g,a,b,e1,e2,?_,e4⟩
  have hg:g<w.heap.size:=by
   rcases Nat.lt_or_ge g w.heap.size with h | h
   ·exact h
   ·rw [Array.getElem?_eq_none h] at e3;cases e3
  rw [hb.block g (by omega)];exact e3
end Go.Proofs.YtagkgfniihiinaaGreatDoor
namespace Go.Proofs.YtagkgfniihiinaaGreatDoor
open Go.RowKit Go.Joins
theorem eByte1:Elem Tryz.prog 27 5 1 1:=elem_of Tryz.underlying27 (by decide) (by decide) (by kernel_rfl)
structure Row (B:Nat) (w:World) (v:Value) (s:ByteArray):Prop where
 own:w.ownsRow B 5 1 v s.size (Lib.strCells s)
theorem Ej (s t:ByteArray):Lib.strCells (s++t)=Lib.strCells s++Lib.strCells t:=by
 simp [Lib.strCells,ByteArray.data_append]
theorem Row.nil (B:Nat) (w:World):Row B w (.slice none 0 0) ⟨#[]⟩:=⟨World.ownsRow_nil _ _ _ _⟩
theorem Row.below {B B' : Nat} {w w' : World} {v:Value} {s:ByteArray} (h:Row B w v s) (hb:Below B' w w') (hB:w.heap.size<=B'):Row B w' v s:=
 ⟨owns_below h.own hb hB⟩
theorem info_byte:∃i,Tryz.prog.info? 5=some i/\i.zero=some (.int .u8 0)/\i.size=1/\i.bytes=1:=by
 obtain ⟨i,hi⟩:=Option.isSome_iff_exists.1 (show (Tryz.prog.info? 5).isSome=true by kernel_rfl);have h1:(Tryz.prog.info? 5).map (·.zero)=some (some (.int .u8 0)):=by kernel_rfl
 have h2:(Tryz.prog.info? 5).map (·.size)=some 1:=by kernel_rfl
 have h3:(Tryz.prog.info? 5).map (·.bytes)=some 1:=by kernel_rfl
 rw [hi] at h1 h2 h3;exact ⟨i,hi,by simpa using h1,by simpa using h2,by simpa using h3⟩
theorem Bq (s:ByteArray):s++(⟨#[]⟩:ByteArray)=s:=by apply ByteArray.ext;simp [ByteArray.data_append]
theorem ba_nil_left (s:ByteArray):(⟨#[]⟩:ByteArray)++s=s:=by apply ByteArray.ext;simp [ByteArray.data_append]
end Go.Proofs.YtagkgfniihiinaaGreatDoor
namespace Go.Proofs.YtagkgfniihiinaaGreatDoor
open Go.RowKit
theorem add_at (b o j:Nat):(⟨b,o,none⟩:Addr).add j=⟨b,o+j,none⟩:=by
 unfold Addr.add;split
 ·rename_i h;subst h;rfl
 ·rfl
structure RowK (B k:Nat) (w:World) (v:Value) (s:ByteArray):Prop where
 row:Row B w v s
 off:v.ownBlock≠some k
 lt:k<w.heap.size
def Kept (k:Nat) (w w' : World):Prop:=w'.heap[k]?=w.heap[k]?
theorem Kept.refl (k:Nat) (w:World):Kept k w w:=rfl
theorem Kept.trans {k:Nat} {a b c:World} (h:Kept k a b) (g:Kept k b c):Kept k a c:=Eq.trans g h
theorem Kept.cell {k:Nat} {w w' : World} (h:Kept k w w') (o:Nat):w'.cell? ⟨k,o,none⟩=w.cell? ⟨k,o,none⟩:=World.cell?_of_block (w:=w) h
theorem app_bytesK {ops:Array Oper} {rest:List Oper} {o:Oper} {a:Act} {Q:Exit->Act->World->Prop} {sl x:Operand} {B k b off cx:Nat} {w:World} {v:Value} {s t:ByteArray} (hgd:o.guard=none)
  (ho:o.op=.call { callee:=.builtin .append,args:=#[sl,x],argTypes:=#[27,27] }) (hs:a.eval sl=v) (hR:RowK B k w v s) (hx:a.eval x=.slice (some ⟨b,off,none⟩) t.size cx)
  (hc:∀j (h:j<t.size),w.cell? ⟨b,off+j,none⟩=some (.int .u8 ((t.data[j]'h).toNat:Int))) (hn:s.size+t.size<=140737488355328) (hB:B<=w.heap.size)
  (h:∀v' w', RowK B k w' v' (s++t)->Below B w w' -> Kept k w w' -> wpList Tryz.prog ops Q rest (a.put o.dst v') w'):wpList Tryz.prog ops Q (o :: rest) a w:=by
 obtain ⟨ht,d,hb,i,z,hi,hz,f,g,l⟩:=eByte1;refine wpList_append_own_at _ hgd sl x 27 ho B 5 i z 1 1 ht hi hz f g l d v s.size (Lib.strCells s) hs hR.row.own ⟨b,off,none⟩ t.size cx (Lib.strCells t) hx (by rw [Lib.strCells_length,Nat.mul_one]) ?_ ?_ ?_ ?_ hB ?_
 ·intro j u hj
  rw [add_at];have c:j<t.size:=by
   have:=(List.getElem?_eq_some_iff.1 hj).1;rwa [Lib.strCells_length] at this
  rw [hc j c,<-hj,Lib.strCells,List.getElem?_map];have:t.data.toList[j]?=some (t.data[j]'c):=by rw [Array.getElem?_toList];exact Array.getElem?_eq_getElem c
  rw [this];rfl
 ·exact Lib.strCells_oneCell t
 ·unfold maxLen;omega
 ·omega
 ·intro v' w' g1 g2 _ g4
  have hlt:=hR.lt;refine h v' w' ⟨⟨?_⟩,?_,Nat.lt_of_lt_of_le hR.lt g2.size⟩ (Below.of_append (Below.refl B w) (Fr.of_grown g2) (fun k hk=>(Au hR.row.own k hk).1) hB) (g2.block k hR.lt (fun e=>hR.off e.symm))
  ·rw [ByteArray.size_append,Ej]
   exact g1
  ·rcases g4 with g4 | g4
   ·rw [g4];exact hR.off
   ·rw [g4];intro e;rw [Option.some.injEq] at e;omega
theorem Ay {ops:Array Oper} {rest:List Oper} {o:Oper} {a:Act} {Q:Exit->Act->World->Prop} {sl x:Operand} {B k:Nat} {w:World} {v:Value} {s:ByteArray} {us:Array Value} (t:ByteArray) (hgd:o.guard=none)
  (ho:o.op=.call { callee:=.builtin .append,args:=#[sl,x],argTypes:=#[27,27] }) (hs:a.eval sl=v) (hR:RowK B k w v s) (hu:us=(Lib.strCells t).toArray) (hx:a.eval x=.slice (some ⟨w.heap.size,0,none⟩) t.size t.size)
  (hn:s.size+t.size<=140737488355328) (hB:B<=w.heap.size)
  (h:∀v' w', RowK B k w' v' (s++t)->Below B w w' -> Kept k w w' -> wpList Tryz.prog ops Q rest (a.put o.dst v') w'):wpList Tryz.prog ops Q (o :: rest) a (w.alloc (.cells us 5)):=by
 have b:=hR.lt;have hK:Kept k w (w.alloc (.cells us 5)):=Below.heap_alloc _ _ _ b;have c:Below B w (w.alloc (.cells us 5)):=(Below.refl B w).alloc hB _;refine app_bytesK (B:=B) (k:=k) (t:=t) hgd ho hs ⟨⟨hR.row.own.alloc _⟩,hR.off,by simp;omega⟩ hx ?_ hn (by simp;omega) ?_
 ·intro j hj
  rw [Nat.zero_add,World.cell?_alloc_new,hu];have:t.data.toList[j]?=some (t.data[j]'hj):=by rw [Array.getElem?_toList];exact Array.getElem?_eq_getElem hj
  rw [List.getElem?_toArray,Lib.strCells,List.getElem?_map,this];rfl
 ·intro v' w' g1 g2 g3
  exact h v' w' g1 (c.trans g2) (hK.trans g3)
