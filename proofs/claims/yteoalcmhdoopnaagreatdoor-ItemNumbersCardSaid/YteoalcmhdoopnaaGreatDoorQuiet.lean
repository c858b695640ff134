/- Regions that draw their order. First: those whose callees make memory and answer plainly (one walk of the lexical order). Second: those whose answers are known by what holds of each alone (a fact for each operation). No program in sight. -/
import Derived.WalkKit
import Derived.BigQuiet
import Derived.Orders
import Derived.Deep.RegionHeld3
namespace Go.Proofs.YteoalcmhdoopnaaGreatDoor
open Go Go.RowKit
structure More where
 objs:Array Obj
 count:Nat
instance:Inhabited More:=⟨⟨#[],0⟩⟩
def grow (W:World) (x:More):World:={ W with heap:=W.heap++x.objs,drawn:=x.count }
theorem As (W:World) (x:More):Below W.heap.size W (grow W x):=
 ⟨rfl,rfl,rfl,by simp [grow],fun k hk=>by simp [grow,Array.getElem?_append_left hk]⟩
theorem grow_of {W w:World} (h:Below W.heap.size W w):∃x,w=grow W x:=by
 refine ⟨⟨w.heap.extract W.heap.size w.heap.size,w.drawn⟩,?_⟩;obtain ⟨h1,h2,h3,h4,h5⟩:=h;cases w with
 | mk heap tape drawn os output=>
   simp only at h1 h2 h3 h4 h5;subst h1 h2 h3;simp only [grow,World.mk.injEq,true_and,and_true];apply Array.ext
   · simp;omega
   · intro k hk1 hk2
     by_cases hk:k<W.heap.size
     · have:=h5 k hk
       simp [hk,hk1] at this;rw [Array.getElem_append_left hk];exact this
     · rw [Array.getElem_append_right (by omega)]
       simp only [Array.getElem_extract];congr 1;omega
@[go_sem] theorem grow_cell {W:World} {x:More} {b o:Nat} {s:Option Nat} (h:b<W.heap.size):(grow W x).cell? ⟨b,o,s⟩=W.cell? ⟨b,o,s⟩:=(As W x).cell (p:=⟨b,o,s⟩) h
@[go_sem] theorem grow_frozen {W:World} {x:More} {b o:Nat} {s:Option Nat} (h:b<W.heap.size):(grow W x).frozen? ⟨b,o,s⟩=W.frozen? ⟨b,o,s⟩:=(As W x).frozen (p:=⟨b,o,s⟩) h
theorem grow_more {W:World} {x:More} {w:World} (h:Below (grow W x).heap.size (grow W x) w):∃y,w=grow W y:=
 grow_of ((As W x).trans (h.mono (As W x).size))
theorem Ft {P:Program} {f:FuncId} {args:Array Value} {W:World} {x:More} {v:Value}
   (h:Calls P f args (grow W x) fun e w' => e=.returned v/\Below (grow W x).heap.size (grow W x) w'):Calls P f args (grow W x) fun e w'' => e=.returned v/\∃y,w'' = grow W y:=
 h.mono fun _ _ ⟨he,hb⟩=>⟨he,grow_more hb⟩
theorem Aq {P:Program} {id:Nat} {Q:Exit->Act->World->Prop} {a:Act} {w:World} {l:List Oper} (hm:P.follows .mixedOrders=true) (hB:Region.lexB .any l.toArray=true)
   (h:wpQuiet P l.toArray (fun w' => ∃x,w' = grow w x) (fun a' => ∀w', (∃x,w' = grow w x)->Q .normal a' w') l a):(Code.region id l.toArray true).wp P Q a w:=
 wp_region_quiet (C:=fun w' => ∃x,w' = grow w x) hm hB (grow_of ((Below.refl _ w).drew)) (by simpa using h)
end Go.Proofs.YteoalcmhdoopnaaGreatDoor
