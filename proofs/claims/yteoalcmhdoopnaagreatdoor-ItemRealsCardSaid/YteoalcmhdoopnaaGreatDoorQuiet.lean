/- Regions that draw their order. First: those whose callees make memory and answer plainly (one walk of the lexical order). Second: those whose answers are known by what holds of each alone (a fact for each operation). No program in sight. -/
import Derived.WalkKit
import Derived.BigQuiet
import Derived.Orders
import Derived.Deep.RegionHeld3
namespace Go.Proofs.YteoalcmhdoopnaaGreatDoor
open Go Go.RowKit
structure More where
 objs:Array Obj
 count:Nat
instance:Inhabited More:=⟨⟨#[],0⟩⟩
def grow (W:World) (x:More):World:={ W with heap:=W.heap++x.objs,drawn:=x.count }
theorem B3 (W:World) (x:More):Below W.heap.size W (grow W x):=
 ⟨rfl,rfl,rfl,by simp [grow],fun k hk=>by simp [grow,Array.getElem?_append_left hk]⟩
theorem grow_of {W w:World} (h:Below W.heap.size W w):∃x,w=grow W x:=by
 refine ⟨⟨w.heap.extract W.heap.size w.heap.size,w.drawn⟩,?_⟩;obtain ⟨h1,h2,h3,h4,h5⟩:=h;cases w with
 | mk heap tape drawn os output=>
   simp only at h1 h2 h3 h4 h5;subst h1 h2 h3;simp only [grow,World.mk.injEq,true_and,and_true];apply Array.ext
   · simp;omega
   · intro k hk1 hk2
     by_cases hk:k<W.heap.size
     · have:=h5 k hk
       simp [hk,hk1] at this;rw [Array.getElem_append_left hk];exact this
     · rw [Array.getElem_append_right (by omega)]
       simp only [Array.getElem_extract];congr 1;omega
@[go_sem] theorem grow_cell {W:World} {x:More} {b o:Nat} {s:Option Nat} (h:b<W.heap.size):(grow W x).cell? ⟨b,o,s⟩=W.cell? ⟨b,o,s⟩:=(B3 W x).cell (p:=⟨b,o,s⟩) h
@[go_sem] theorem grow_frozen {W:World} {x:More} {b o:Nat} {s:Option Nat} (h:b<W.heap.size):(grow W x).frozen? ⟨b,o,s⟩=W.frozen? ⟨b,o,s⟩:=(B3 W x).frozen (p:=⟨b,o,s⟩) h
theorem grow_more {W:World} {x:More} {w:World} (h:Below (grow W x).heap.size (grow W x) w):∃y,w=grow W y:=
 grow_of ((B3 W x).trans (h.mono (B3 W x).size))
theorem Fg {P:Program} {f:FuncId} {args:Array Value} {W:World} {x:More} {v:Value}
   (h:Calls P f args (grow W x) fun e w' => e=.returned v/\Below (grow W x).heap.size (grow W x) w'):Calls P f args (grow W x) fun e w'' => e=.returned v/\∃y,w'' = grow W y:=
 h.mono fun _ _ ⟨he,hb⟩=>⟨he,grow_more hb⟩
theorem Cr {P:Program} {id:Nat} {Q:Exit->Act->World->Prop} {a:Act} {w:World} {l:List Oper} (hm:P.follows .mixedOrders=true) (hB:Region.lexB .any l.toArray=true)
   (h:wpQuiet P l.toArray (fun w' => ∃x,w' = grow w x) (fun a' => ∀w', (∃x,w' = grow w x)->Q .normal a' w') l a):(Code.region id l.toArray true).wp P Q a w:=
 wp_region_quiet (C:=fun w' => ∃x,w' = grow w x) hm hB (grow_of ((Below.refl _ w).drew)) (by simpa using h)
def gives (P:Program) (o:Oper) (a:Act) (w:World) (R:Value->World->Prop):Prop:=
 match (execOp a.eval o).run P w with
 | .ok (.value u) w' => R u w'
 | .ok .skip w' => R undef w'
 | .ok (.enter f args) w' => Calls P f args w' fun e w'' => ∃v,e=.returned v/\R v w''
 | .ok (.row row args) w' => Rows P row args w' R
 | _=>False
def Had (l:List Oper) (G:Nat->Value->World->Prop) (k:Nat) (a:Act) (w:World):Prop:=∃v,G k v w/\∀o d,l[k]?=some o->o.dst=some d->a.tmps.getD d undef=v
def waitsB (l:List Oper) (k i:Nat):Bool:=match l[k]? with | some o=>o.after.any (fun e=>Region.binds .any e && decide (e.on=i)) | none=>false
def exB (l:List Oper) (E:Nat->Nat->Bool) (i k:Nat):Bool:=E i k || (match l[i]? with | some o=>o.after.any (fun e=>Region.binds .any e && E e.on k) | none=>false) || waitsB l k i
structure RInv (l:List Oper) (C I:World->Prop) (G:Nat->Value->World->Prop) (E:Nat->Nat->Bool) (F:Nat->Bool) (a0:Act) (listed:Array Bool) (a:Act) (w:World):Prop where
 c:C w
 defers:a.defers=a0.defers
 size:a.tmps.size=a0.tmps.size
 rest:∀t,(∀o∈l,o.dst≠some t)->a.tmps.getD t undef=a0.tmps.getD t undef
 had:∀k,k<l.length->listed.getD k false=true->(∀i,E i k=true->listed.getD i false=false)->Had l G k a w
 init:(∀j,F j=true->listed.getD j false=false)->I w
 closed:∀k o,l[k]?=some o->listed.getD k false=true->∀e∈o.after,Region.binds .any e=true->listed.getD e.on false=true
structure Finds (l:List Oper) (C I:World->Prop) (G:Nat->Value->World->Prop) (E:Nat->Nat->Bool) (F:Nat->Bool) (a0:Act) (i:Nat) (o:Oper) (a:Act) (w:World):Prop where
 c:C w
 size:a.tmps.size=a0.tmps.size
 rest:∀t,(∀o∈l,o.dst≠some t)->a.tmps.getD t undef=a0.tmps.getD t undef
 had:∀e∈o.after,Region.binds .any e=true->(∀j,E j e.on=true->j=i)->Had l G e.on a w
 init:(∀j,F j=true->j=i\/waitsB l j i=true)->I w
theorem dst_ne:∀{l:List Oper},(l.filterMap (·.dst)).Nodup->∀{i k:Nat} {oi ok:Oper} {d d' : Tmp},l[i]?=some oi->l[k]?=some ok->i≠k->oi.dst=some d->ok.dst=some d' -> d≠d'
 | [],_,i,k,oi,ok,d,d', hi,_,_,_,_=>by simp at hi
 | o :: l,hn,i,k,oi,ok,d,d', hi,hk,hne,hd,hd' => by
   have hn' : (l.filterMap (·.dst)).Nodup:=by
     cases h:o.dst with
     | none=>rw [List.filterMap_cons_none h] at hn;exact hn
     | some x=>rw [List.filterMap_cons_some h] at hn;exact (List.nodup_cons.1 hn).2
   rcases i with _ | i<;>rcases k with _ | k
   · exact absurd rfl hne
   · simp at hi;subst hi
     rw [List.filterMap_cons_some hd] at hn;intro e;subst e;exact (List.nodup_cons.1 hn).1 (List.mem_filterMap.2 ⟨ok,List.mem_of_getElem? (by simpa using hk),hd'⟩)
   · simp at hk;subst hk
     rw [List.filterMap_cons_some hd'] at hn;intro e;subst e;exact (List.nodup_cons.1 hn).1 (List.mem_filterMap.2 ⟨oi,List.mem_of_getElem? (by simpa using hi),hd⟩)
   · exact dst_ne hn' (by simpa using hi) (by simpa using hk) (fun e=>hne (by rw [e])) hd hd'
theorem put_getD_same {a:Act} {d:Tmp} {v:Value} (h:d<a.tmps.size):(a.put (some d) v).tmps.getD d undef=v:=by
 simp [Act.put,h]
theorem put_getD_ne {a:Act} {x:Option Tmp} {v:Value} {t:Nat} (h:x≠some t):(a.put x v).tmps.getD t undef=a.tmps.getD t undef:=by
 cases x with
 | none=>rfl
 | some d=>simp [Act.put,Array.getElem?_setIfInBounds_ne (show d≠t from fun e=>h (by rw [e]))]
theorem put_size {a:Act} {x:Option Tmp} {v:Value}:(a.put x v).tmps.size=a.tmps.size:=by cases x<;>simp [Act.put]
theorem put_defs {a:Act} {x:Option Tmp} {v:Value}:(a.put x v).defers=a.defers:=by cases x<;>rfl
theorem RInv.step {l:List Oper} {C I:World->Prop} {F:Nat->Bool} {G:Nat->Value->World->Prop} {a0:Act} {listed:Array Bool} {a:Act} {w w' : World} {E:Nat->Nat->Bool} (h:RInv l C I G E F a0 listed a w) (hn:(l.filterMap (·.dst)).Nodup) (hsz:∀d∈l.filterMap (·.dst),d<a0.tmps.size)
   {i:Nat} {o:Oper} {v:Value} (hi:l[i]?=some o) (hs:listed.size=l.length) (hun:listed.getD i true=false) (hc:C w') (haf:∀e∈o.after,Region.binds .any e=true->listed.getD e.on false=true) (hst:∀k u,k≠i->exB l E i k=false->G k u w->G k u w') (hin:F i=false->I w->I w') (hv:G i v w'):RInv l C I G E F a0 (listed.setIfInBounds i true) (a.put o.dst v) w' := by
 refine ⟨hc,put_defs.trans h.defers,put_size.trans h.size,fun t ht=>?_,fun k hk hl he=>?_,fun hj=>?_,fun k ok hok hl e he hb=>?_⟩
 · rw [put_getD_ne (ht o (List.mem_of_getElem? hi))];exact h.rest t ht
 · by_cases hki:k=i
   · subst hki
     refine ⟨v,hv,fun o' d ho hd=>?_⟩;rw [hi] at ho;cases ho;rw [hd,put_getD_same];rw [h.size];exact hsz d (List.mem_filterMap.2 ⟨o,List.mem_of_getElem? hi,hd⟩)
   · have hl' : listed.getD k false=true:=by rw [<-hl];simp [Array.getElem?_setIfInBounds_ne (Ne.symm hki)]
     have hil:i<listed.size:=by rw [hs];exact (List.getElem?_eq_some_iff.1 hi).1
     have hik:E i k=false:=by
       cases hh:E i k with
       | false=>rfl
       | true=>have:=he i hh;simp [hil] at this
     have hex:exB l E i k=false:=by
       unfold exB;rw [hik,hi,Bool.false_or,Bool.or_eq_false_iff];refine ⟨?_,?_⟩
       · dsimp only
         rw [Array.any_eq_false'];intro e hem h1;simp only [Bool.and_eq_true] at h1;have h2:=he e.on h1.2;rw [getD_set_true (haf e hem h1.1)] at h2;cases h2
       · unfold waitsB
         split
         · rename_i ok hok
           rw [Array.any_eq_false'];intro e hem h1;simp only [Bool.and_eq_true,decide_eq_true_eq] at h1;have h2:=h.closed k ok hok hl' e hem h1.1;rw [h1.2] at h2;simp [hil] at h2 hun;rw [h2] at hun;cases hun
         · rfl
     obtain ⟨u,hu,hd⟩:=h.had k hk hl' (fun j hj=>by
       have h1:=he j hj;by_cases hji:i=j
       · subst hji;rw [hik] at hj;cases hj
       · rw [getD_set_ne false hji] at h1;exact h1)
     refine ⟨u,hst k u hki hex hu,fun o' d ho hd' => ?_⟩;rw [put_getD_ne (fun e=>dst_ne hn hi ho (Ne.symm hki) e hd' rfl)];exact hd o' d ho hd'
 · have hil:i<listed.size:=by rw [hs];exact (List.getElem?_eq_some_iff.1 hi).1
   have hF:F i=false:=by
     cases hh:F i with
     | false=>rfl
     | true=>have:=hj i hh;simp [hil] at this
   refine hin hF (h.init fun j hjF=>?_);by_cases hji:i=j
   · subst hji;rw [hF] at hjF;cases hjF
   · have:=hj j hjF;rw [getD_set_ne false hji] at this;exact this
 · by_cases hki:k=i
   · subst hki
     rw [hi] at hok;cases hok;exact getD_set_true (haf e he hb)
   · rw [getD_set_ne false (Ne.symm hki)] at hl
     exact getD_set_true (h.closed k ok hok hl e he hb)
def VC (P:Program) (l:List Oper) (C I:World->Prop) (R:Nat->World->World->Prop) (G:Nat->Value->World->Prop) (E:Nat->Nat->Bool) (F:Nat->Bool) (a0:Act) (i:Nat) (o:Oper):Prop:=
 ∀a w,Finds l C I G E F a0 i o a w->if Region.wanted o (yielded l.toArray a.tmps) then gives P o a w (fun v w' => C w' /\ R i w w' /\ G i v w') else G i undef w
def VCs (P:Program) (l:List Oper) (C I:World->Prop) (R:Nat->World->World->Prop) (G:Nat->Value->World->Prop) (E:Nat->Nat->Bool) (F:Nat->Bool) (a0:Act):List Oper->Nat->Prop
 | [],_=>True
 | o :: r,i=>VC P l C I R G E F a0 i o/\VCs P l C I R G E F a0 r (i+1)
theorem VCs.at {P:Program} {l:List Oper} {C I:World->Prop} {F:Nat->Bool} {R:Nat->World->World->Prop} {G:Nat->Value->World->Prop} {E:Nat->Nat->Bool} {a0:Act}:∀{r:List Oper} {j:Nat},VCs P l C I R G E F a0 r j->∀(i:Nat) (o:Oper),r[i]?=some o->VC P l C I R G E F a0 (j+i) o
 | [],_,_,i,o,h=>by simp at h
 | o' :: r,j,h,i,o,ho=>by
   rcases i with _ | i
   · simp at ho;subst ho;exact h.1
   · have:=h.2.at i o (by simpa using ho)
     rw [show j+(i+1)=j+1+i by omega];exact this
theorem VC.plain {P:Program} {l:List Oper} {C I:World->Prop} {F:Nat->Bool} {R:Nat->World->World->Prop} {G:Nat->Value->World->Prop} {E:Nat->Nat->Bool} {a0:Act} {i:Nat} {o:Oper} (hg:o.guard=none) (h:∀a w,Finds l C I G E F a0 i o a w->gives P o a w (fun v w' => C w' /\ R i w w' /\ G i v w')):VC P l C I R G E F a0 i o:=fun a w hf=>by
 rw [if_pos (by unfold Region.wanted;rw [hg])];exact h a w hf
end Go.Proofs.YteoalcmhdoopnaaGreatDoor
