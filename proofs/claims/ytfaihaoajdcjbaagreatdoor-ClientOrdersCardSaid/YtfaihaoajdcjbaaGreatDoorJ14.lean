/- A region that draws its order, and whose last operation waits for all others: that one is walked last. No program in sight. -/
import Derived.WalkKit
import Derived.Orders
import Derived.Deep.RegionHeld3
import Derived.BigQuiet
set_option linter.all false
namespace Go.Proofs.YtfaihaoajdcjbaaGreatDoor
open Go
theorem Ef:∀(l:List Bool) (i:Nat),l[i]?=some false->(l.set i true).count false+1=l.count false
 | [],i,h=>by simp at h
 | b :: l,0,h=>by simp at h;subst h;simp
 | b :: l,i+1,h=>by
   simp only [List.getElem?_cons_succ] at h;have:=Ef l i h;cases b<;>simp<;>omega
end Go.Proofs.YtfaihaoajdcjbaaGreatDoor
namespace Go.Proofs.YtfaihaoajdcjbaaGreatDoor
open Go Go.RowKit
structure More where
 objs:Array Obj
 count:Nat
instance:Inhabited More:=⟨⟨#[],0⟩⟩
def grow (W:World) (x:More):World:={ W with heap:=W.heap++x.objs,drawn:=x.count }
theorem Ag (W:World) (x:More):Below W.heap.size W (grow W x):=
 ⟨rfl,rfl,rfl,by simp [grow],fun k hk=>by simp [grow,Array.getElem?_append_left hk]⟩
theorem grow_of {W w:World} (h:Below W.heap.size W w):∃x,w=grow W x:=by
 refine ⟨⟨w.heap.extract W.heap.size w.heap.size,w.drawn⟩,?_⟩;obtain ⟨h1,h2,h3,h4,h5⟩:=h;cases w with
 | mk heap tape drawn os output=>
   simp only at h1 h2 h3 h4 h5;subst h1 h2 h3;simp only [grow,World.mk.injEq,true_and,and_true];apply Array.ext
   · simp;omega
   · intro k hk1 hk2
     by_cases hk:k<W.heap.size
     · have:=h5 k hk
       simp [hk,hk1] at this;rw [Array.getElem_append_left hk];exact this
     · rw [Array.getElem_append_right (by omega)]
       simp only [Array.getElem_extract];congr 1;omega
@[go_sem] theorem grow_cell {W:World} {x:More} {b o:Nat} {s:Option Nat} (h:b<W.heap.size):(grow W x).cell? ⟨b,o,s⟩=W.cell? ⟨b,o,s⟩:=(Ag W x).cell (p:=⟨b,o,s⟩) h
@[go_sem] theorem grow_frozen {W:World} {x:More} {b o:Nat} {s:Option Nat} (h:b<W.heap.size):(grow W x).frozen? ⟨b,o,s⟩=W.frozen? ⟨b,o,s⟩:=(Ag W x).frozen (p:=⟨b,o,s⟩) h
theorem grow_more {W:World} {x:More} {w:World} (h:Below (grow W x).heap.size (grow W x) w):∃y,w=grow W y:=
 grow_of ((Ag W x).trans (h.mono (Ag W x).size))
theorem Bb {P:Program} {f:FuncId} {args:Array Value} {W:World} {x:More} {v:Value}
   (h:Calls P f args (grow W x) fun e w' => e=.returned v/\Below (grow W x).heap.size (grow W x) w'):Calls P f args (grow W x) fun e w'' => e=.returned v/\∃y,w'' = grow W y:=
 h.mono fun _ _ ⟨he,hb⟩=>⟨he,grow_more hb⟩
theorem Ad {P:Program} {id:Nat} {Q:Exit->Act->World->Prop} {a:Act} {w:World} {l:List Oper} (hm:P.follows .mixedOrders=true) (hB:Region.lexB .any l.toArray=true)
   (h:wpQuiet P l.toArray (fun w' => ∃x,w' = grow w x) (fun a' => ∀w', (∃x,w' = grow w x)->Q .normal a' w') l a):(Code.region id l.toArray true).wp P Q a w:=
 wp_region_quiet (C:=fun w' => ∃x,w' = grow w x) hm hB (grow_of ((Below.refl _ w).drew)) (by simpa using h)
def Bz (P:Program) (o:Oper) (a:Act) (w:World) (R:Value->World->Prop):Prop:=
 match (execOp a.eval o).run P w with
 | .ok (.value u) w' => R u w'
 | .ok .skip w' => R undef w'
 | .ok (.enter f args) w' => Calls P f args w' fun e w'' => ∃v,e=.returned v/\R v w''
 | .ok (.row row args) w' => Rows P row args w' R
 | _=>False
theorem wp_of_gives {P:Program} {o:Oper} {a:Act} {w:World} {R:Value->World->Prop} {K:Act->World->Prop} {Q:Exit->Act->World->Prop} (h:Bz P o a w R) (hk:∀v w', R v w' -> K (a.put o.dst v) w'):o.wp P a w K Q:=by
 unfold Bz at h;unfold Oper.wp;generalize (execOp a.eval o).run P w=r at h ⊢;cases r with
 | ok n w' =>
   cases n<;>simp only [Oper.upon] at h ⊢
   case value u=>exact hk _ _ h
   case skip=>exact hk _ _ h
   case enter f args=>exact h.mono fun e w'' ⟨v,he,hr⟩=>by subst he;exact hk _ _ hr
   case row row args=>exact Rows.mono h fun v w'' hr=>hk _ _ hr
   all_goals exact h.elim
 | halt x w' => exact h.elim
theorem gives_value {P:Program} {o:Oper} {a:Act} {w w' : World} {R:Value->World->Prop} {u:Value} (h:(execOp a.eval o).run P w=.ok (.value u) w') (hr:R u w'):Bz P o a w R:=by unfold Bz;rw [h];exact hr
theorem gives_skip {P:Program} {o:Oper} {a:Act} {w w' : World} {R:Value->World->Prop} (h:(execOp a.eval o).run P w=.ok .skip w') (hr:R undef w'):Bz P o a w R:=by unfold Bz;rw [h];exact hr
theorem Ds {P:Program} {o:Oper} {a:Act} {w w' : World} {R:Value->World->Prop} {f:FuncId} {args:Array Value} (h:(execOp a.eval o).run P w=.ok (.enter f args) w') (hr:Calls P f args w' fun e w'' => ∃v,e=.returned v/\R v w''):Bz P o a w R:=by
 unfold Bz;rw [h];exact hr
def Had (l:List Oper) (G:Nat->Value->World->Prop) (k:Nat) (a:Act) (w:World):Prop:=∃v,G k v w/\∀o d,l[k]?=some o->o.dst=some d->a.tmps.getD d undef=v
def dstsB (l:List Oper) (n:Nat):Bool:=(l.filterMap (·.dst)).all (fun d=>decide (d<n)) && decide (l.filterMap (·.dst)).Nodup
def waitsB (l:List Oper) (k i:Nat):Bool:=match l[k]? with | some o=>o.after.any (fun e=>Region.binds .any e && decide (e.on=i)) | none=>false
def exB (l:List Oper) (E:Nat->Nat->Bool) (i k:Nat):Bool:=E i k || (match l[i]? with | some o=>o.after.any (fun e=>Region.binds .any e && E e.on k) | none=>false) || waitsB l k i
def isIn (ps:List Nat) (i:Nat):Bool:=ps.contains i
def eats (ps:List (Nat × Nat)) (i k:Nat):Bool:=ps.contains (i,k)
theorem dst_ne:∀{l:List Oper},(l.filterMap (·.dst)).Nodup->∀{i k:Nat} {oi ok:Oper} {d d' : Tmp},l[i]?=some oi->l[k]?=some ok->i≠k->oi.dst=some d->ok.dst=some d' -> d≠d'
 | [],_,i,k,oi,ok,d,d', hi,_,_,_,_=>by simp at hi
 | o :: l,hn,i,k,oi,ok,d,d', hi,hk,hne,hd,hd' => by
   have hn' : (l.filterMap (·.dst)).Nodup:=by
     cases h:o.dst with
     | none=>rw [List.filterMap_cons_none h] at hn;exact hn
     | some x=>rw [List.filterMap_cons_some h] at hn;exact (List.nodup_cons.1 hn).2
   rcases i with _ | i<;>rcases k with _ | k
   · exact absurd rfl hne
   · simp at hi;subst hi
     rw [List.filterMap_cons_some hd] at hn;intro e;subst e;exact (List.nodup_cons.1 hn).1 (List.mem_filterMap.2 ⟨ok,List.mem_of_getElem? (by simpa using hk),hd'⟩)
   · simp at hk;subst hk
     rw [List.filterMap_cons_some hd'] at hn;intro e;subst e;exact (List.nodup_cons.1 hn).1 (List.mem_filterMap.2 ⟨oi,List.mem_of_getElem? (by simpa using hi),hd⟩)
   · exact dst_ne hn' (by simpa using hi) (by simpa using hk) (fun e=>hne (by rw [e])) hd hd'
theorem Ch {a:Act} {d:Tmp} {v:Value} (h:d<a.tmps.size):(a.put (some d) v).tmps.getD d undef=v:=by
 simp [Act.put,h]
theorem Bx {a:Act} {x:Option Tmp} {v:Value} {t:Nat} (h:x≠some t):(a.put x v).tmps.getD t undef=a.tmps.getD t undef:=by
 cases x with
 | none=>rfl
 | some d=>simp [Act.put,Array.getElem?_setIfInBounds_ne (show d≠t from fun e=>h (by rw [e]))]
theorem D5 {a:Act} {x:Option Tmp} {v:Value}:(a.put x v).tmps.size=a.tmps.size:=by cases x<;>simp [Act.put]
theorem Fi {a:Act} {x:Option Tmp} {v:Value}:(a.put x v).defers=a.defers:=by cases x<;>rfl
end Go.Proofs.YtfaihaoajdcjbaaGreatDoor
