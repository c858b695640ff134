/- As append_elem: the row as long as there is room (no program in sight). -/
import Derived.Test.YtfaihaoajdcjbaaGreatDoorBase
import Derived.Test.YtfaihaoajdcjbaaGreatDoorProg
import Derived.Lib.AppendStr
import Derived.Lib.SmallJoins
set_option linter.all false
namespace Go.Proofs.YtfaihaoajdcjbaaGreatDoor
open Go.RowKit
theorem append_room {P:Program} {w0:World} {ops:Array Oper} {rest:List Oper} {o:Oper} {a:Act} {Q:Exit->Act->World->Prop} {s x:Operand} {t e base size bytes n:Nat} {v:Value} {xs:List Value} {us:Array Value}
   (hgd:o.guard=none) (ho:o.op=.call { callee:=.builtin .append,args:=#[s,x],argTypes:=#[t,t] }) (E:Elem P t e size bytes)
   (hs:a.eval s=v) (hown:w0.ownsRow base e size v n xs) (hx:a.eval x=.slice (some ⟨w0.heap.size,0,none⟩) 1 1) (hus:us.size=size) (h1:us.toList.all (fun u=>u.oneCell')=true)
   (hn:n+1<=140737488355328) (hn2:(n+1) * bytes<=140737488355328) (hbase:base<=w0.heap.size)
   (h:∀v' w', w'.ownsRow base e size v' (n+1) (xs++us.toList)->Fr (fun k=>v.ownBlock=some k) w0 w' -> wpList P ops Q rest (a.put o.dst v') w'):wpList P ops Q (o :: rest) a (w0.alloc (.cells us e)):=by
 obtain ⟨ht,hsz,hb,i,z,hi,hz,hi1,hi2,hz1⟩:=E;refine wpList_append_own _ hgd s x t ho base e i z size bytes ht hi hz hi1 hi2 hz1 hsz v n xs hs (hown.alloc _) ⟨w0.heap.size,0,none⟩ 1 1 us.toList hx (by simp [hus]) ?_ ?_ ?_ ?_ ?_ ?_
 · intro j u hj
   have e1:(⟨w0.heap.size,0,none⟩:Addr).add j=⟨w0.heap.size,j,none⟩:=by
     unfold Addr.add;split
     · rename_i h;rw [h]
     · simp
   rw [e1,World.cell?_alloc_new];simpa using hj
 · intro u hu;exact List.all_eq_true.1 h1 u hu
 · unfold maxLen;omega
 · exact hn2
 · simp;omega
 · intro v' w' g1 g2 _
   refine h v' w' g1 ⟨g2.os,g2.tape,g2.output,by have:=g2.size;simp at this;omega,fun k hk hS=>?_⟩;rw [g2.block k (by simp;omega) (fun e=>hS e.symm),Below.heap_alloc _ _ _ hk]
theorem Br {w w' : World} {B base e size n:Nat} {v:Value} {xs:List Value} (h:w.ownsRow base e size v n xs) (hb:Below B w w') (hB:w.heap.size<=B):w'.ownsRow base e size v n xs:=by
 refine ⟨h.1,?_⟩;rcases h.2 with h2 | ⟨g,cap,cur,e1,e2,e3,e4⟩
 · exact Or.inl h2
 · refine Or.inr ⟨g,cap,cur,e1,e2,?_,e4⟩
   have hg:g<w.heap.size:=by
     rcases Nat.lt_or_ge g w.heap.size with h | h
     · exact h
     · rw [Array.getElem?_eq_none h] at e3;cases e3
   rw [hb.block g (by omega)];exact e3
end Go.Proofs.YtfaihaoajdcjbaaGreatDoor
namespace Go.Proofs.YtfaihaoajdcjbaaGreatDoor
open Go.RowKit Go.Joins
theorem eByte1:Elem Tryz.prog 32 5 1 1:=C1 Tryz.underlying32 (by decide) (by decide) (by kernel_rfl)
structure Row (B:Nat) (w:World) (v:Value) (s:ByteArray):Prop where
 own:w.ownsRow B 5 1 v s.size (Lib.strCells s)
theorem C3 (s t:ByteArray):Lib.strCells (s++t)=Lib.strCells s++Lib.strCells t:=by
 simp [Lib.strCells,ByteArray.data_append]
theorem Row.nil (B:Nat) (w:World):Row B w (.slice none 0 0) ⟨#[]⟩:=⟨World.ownsRow_nil _ _ _ _⟩
theorem Row.below {B B' : Nat} {w w' : World} {v:Value} {s:ByteArray} (h:Row B w v s) (hb:Below B' w w') (hB:w.heap.size<=B'):Row B w' v s:=
 ⟨Br h.own hb hB⟩
theorem info_byte:∃i,Tryz.prog.info? 5=some i/\i.zero=some (.int .u8 0)/\i.size=1/\i.bytes=1:=by
 obtain ⟨i,hi⟩:=Option.isSome_iff_exists.1 (show (Tryz.prog.info? 5).isSome=true by kernel_rfl);have h1:(Tryz.prog.info? 5).map (·.zero)=some (some (.int .u8 0)):=by kernel_rfl
 have h2:(Tryz.prog.info? 5).map (·.size)=some 1:=by kernel_rfl
 have h3:(Tryz.prog.info? 5).map (·.bytes)=some 1:=by kernel_rfl
 rw [hi] at h1 h2 h3;exact ⟨i,hi,by simpa using h1,by simpa using h2,by simpa using h3⟩
theorem D6 {ops:Array Oper} {rest:List Oper} {o:Oper} {a:Act} {Q:Exit->Act->World->Prop} {sl x:Operand} {B:Nat} {w:World} {v:Value} {s t:ByteArray} (hgd:o.guard=none)
   (ho:o.op=.call { callee:=.builtin .append,args:=#[sl,x],argTypes:=#[32,9] }) (hs:a.eval sl=v) (hR:Row B w v s) (hx:a.eval x=.string t) (hn:s.size+t.size<=140737488355328) (hB:B<=w.heap.size)
   (h:∀v' w', Row B w' v' (s++t)->Below B w w' -> wpList Tryz.prog ops Q rest (a.put o.dst v') w'):wpList Tryz.prog ops Q (o :: rest) a w:=by
 obtain ⟨i,h1,h2,h3,h4⟩:=info_byte;refine Lib.wpList_append_own_string w hgd sl x 32 9 ho B 5 i Tryz.underlying32 Tryz.underlying9 h1 h2 h3 h4 v s.size (Lib.strCells s) hs hR.own t hx (by unfold maxLen;omega) hn hB ?_;intro v' w' g1 g2 _;refine h v' w' ⟨?_⟩ (Below.of_append (Below.refl B w) (Fr.of_grown g2) (fun k hk=>(An hR.own k hk).1) hB);rw [ByteArray.size_append,C3];exact g1
theorem app_byte {ops:Array Oper} {rest:List Oper} {o:Oper} {a:Act} {Q:Exit->Act->World->Prop} {sl x:Operand} {B:Nat} {w:World} {v:Value} {s:ByteArray} {b:UInt8} (hgd:o.guard=none)
   (ho:o.op=.call { callee:=.builtin .append,args:=#[sl,x],argTypes:=#[32,32] }) (hs:a.eval sl=v) (hR:Row B w v s) (hx:a.eval x=.slice (some ⟨w.heap.size,0,none⟩) 1 1) (hn:s.size+1<=140737488355328) (hB:B<=w.heap.size)
   (h:∀v' w', Row B w' v' (s++⟨#[b]⟩)->Below B w w' -> wpList Tryz.prog ops Q rest (a.put o.dst v') w'):wpList Tryz.prog ops Q (o :: rest) a (w.alloc (.cells #[.int .u8 (b.toNat:Int)] 5)):=by
 refine append_room hgd ho eByte1 hs hR.own hx rfl rfl hn (by omega) hB ?_;intro v' w' g1 g2;refine h v' w' ⟨?_⟩ (Below.of_append (Below.refl B w) g2 (fun k hk=>(An hR.own k hk).1) hB);rw [ByteArray.size_append,C3];exact g1
theorem D2 (s:ByteArray):s++(⟨#[]⟩:ByteArray)=s:=by apply ByteArray.ext;simp [ByteArray.data_append]
theorem Ey (s:ByteArray):(⟨#[]⟩:ByteArray)++s=s:=by apply ByteArray.ext;simp [ByteArray.data_append]
end Go.Proofs.YtfaihaoajdcjbaaGreatDoor
