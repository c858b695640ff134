/- copy, and an append of noughts, on rows of the call's own whose elements have some cells. No program in sight. -/
import Derived.Test.YteoalcmhdoopnaaGreatDoorBase
import Derived.Laws.CopyRow
import Derived.Lib.AppendZerosOnto
import Derived.Laws.CopyOwn
import Derived.Deep.AppendSrc
namespace Go.Proofs.YteoalcmhdoopnaaGreatDoor
open Go Go.RowKit
theorem Ak {P:Program} (w:World) (dT sT ty elem:TypeId) (k g o dLen dCap:Nat) (a:Addr) (sLen sCap:Nat) (cur:Array Value) (t:TypeId) (cs:List Value) (m:Nat)
   (hu:P.underlying dT=some (.slice elem)) (hs:(P.info? elem).map (·.size)=some k)
   (hg:w.heap[g]?=some (.cells cur t (0,0))) (hm:m=Nat.min sLen dLen) (hn:cs.length=m * k)
   (hsrc:∀j v,cs[j]?=some v->w.cell? (a.add j)=some v) (hfit:o+cs.length<=cur.size) (h1:∀v∈cs,v.oneCell' = true) :
   (Builtin.copy_ #[dT,sT] ty #[.slice (some ⟨g,o,none⟩) dLen dCap,.slice (some a) sLen sCap]).run P w =
     .ok (goInt m) (w.setRow g (cur.toList.take o++cs++cur.toList.drop (o+cs.length)).toArray):=by
 have hl:=run_loadCells_list (P:=P) w a cs hsrc
 have hst:=run_storeCells_at P g o t cs 0 cur w hg (by simpa using hfit) h1
 rw [hn] at hl
 cases hq:P.info? elem with
 | none=>simp [hq] at hs
 | some i=>
   have hi:i.size=k:=by simpa [hq] using hs
   simp [Builtin.copy_,run_underlying hu,Builtin.lenOf,Builtin.firstCells,sizeOf,typeInfo,hq,hi,<-hm,hl,hst]
theorem Aj {P:Program} {w:World} {ops:Array Oper} {rest:List Oper} {o:Oper} {a:Act} {Q:Exit->Act->World->Prop} (hgd:o.guard=none) (d s:Operand) (t t' : TypeId)
   (ho:o.op=.call { callee:=.builtin .copy,args:=#[d,s],argTypes:=#[t,t'] }) (v u:Value) (hd:a.eval d=v) (hs:a.eval s=u) {v' : Value} {w' : World}
   (hr:∀ty,(Builtin.copy_ #[t,t'] ty #[v,u]).run P w=.ok v' w') (h:wpList P ops Q rest (a.put o.dst v') w'):wpList P ops Q (o :: rest) a w:=by
 refine wpList_plain hgd fun K hK=>?_
 unfold Oper.wp execOp
 simp only [ho,resolve,invoke,builtin,Sem.run_bind,Sem.run_pure,Result.andThen_ok,List.map_toArray,List.map_cons,List.map_nil,hd,hs,hr]
 exact hK _ _ h
theorem Ay {S:Nat->Prop} {a w:World} (h:Fr S a w) {g:Nat} (hp:g<a.heap.size->S g) {cur:Array Value} {t:TypeId} (hg:w.heap[g]?=some (.cells cur t (0,0))) (cs:Array Value):Fr S a (w.setRow g cs):=by
 refine ⟨h.os,h.tape,h.output,?_,fun k hk hS=>?_⟩
 · have:=h.size;unfold World.setRow;simpa using this
 · rw [<-h.block k hk hS]
   unfold World.setRow;rw [Array.getElem?_modify];rw [if_neg (fun e=>hS (by subst e;exact hp hk))]
theorem Ai {w:World} {g:Nat} {cur:Array Value} {t:TypeId} (hg:w.heap[g]?=some (.cells cur t (0,0))) (cs:Array Value):(w.setRow g cs).heap[g]?=some (.cells cs t (0,0)):=setRow_heap w g cur cs t _ hg
theorem A9 {w:World} {base e size n cap:Nat} {ad:Addr} {xs:List Value} (h:w.ownsRow base e size (.slice (some ad) n cap) n xs) :
   ∃(g:Nat) (cur:Array Value),ad=⟨g,0,none⟩/\base<=g/\w.heap[g]?=some (.cells cur e (0,0))/\n<=cap/\cap<=maxLen/\cur.size=cap * size/\cur.toList.take (n * size)=xs:=by
 obtain ⟨_,h⟩:=h
 rcases h with ⟨h,_⟩ | ⟨g,cap', cur,h,h2⟩
 · cases h
 · cases h;exact ⟨g,cur,rfl,h2⟩
theorem A6 {w:World} {base e size n cap g:Nat} {cur:Array Value} {xs:List Value} (hb:base<=g) (hg:w.heap[g]?=some (.cells cur e (0,0))) (hn:n<=cap) (hm:cap<=maxLen) (hs:cur.size=cap * size) (hx:cur.toList.take (n * size)=xs) :
   w.ownsRow base e size (.slice (some ⟨g,0,none⟩) n cap) n xs:=by
 refine ⟨?_,Or.inr ⟨g,cap,cur,rfl,hb,hg,hn,hm,hs,hx⟩⟩
 rw [<-hx,List.length_take,Array.length_toList,hs]
 exact Nat.min_eq_left (Nat.mul_le_mul_right _ hn)
theorem An {w:World} {g:Nat} {cur:Array Value} {t:TypeId} (hg:w.heap[g]?=some (.cells cur t (0,0))) (j:Nat):w.cell? ⟨g,j,none⟩=cur[j]?:=by
 simp [World.cell?,hg]
end Go.Proofs.YteoalcmhdoopnaaGreatDoor
