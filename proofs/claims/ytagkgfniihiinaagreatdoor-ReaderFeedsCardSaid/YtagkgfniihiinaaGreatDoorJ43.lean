/- A region that draws its order, and whose last operation waits for all others: that one is walked last. No program in sight. -/
import Derived.WalkKit
import Derived.Orders
import Derived.Deep.RegionHeld3
import Derived.BigQuiet
set_option linter.all false
namespace Go.Proofs.YtagkgfniihiinaaGreatDoor
open Go
def backB (ops:Array Oper):Bool:=(List.range ops.size).all fun i=>match ops[i]? with
 | some o=>o.after.all (fun e=>decide (e.on<i)) && (match o.guard with | some (g,_)=>decide (g<i) | none=>true)
 | none=>true
theorem Fp:∀(l:List Bool) (i:Nat),l[i]?=some false->(l.set i true).count false+1=l.count false
 | [],i,h=>by simp at h
 | b :: l,0,h=>by simp at h;subst h;simp
 | b :: l,i+1,h=>by
   simp only [List.getElem?_cons_succ] at h;have:=Fp l i h;cases b<;>simp<;>omega
theorem back_at {ops:Array Oper} (h:backB ops=true) {i:Nat} {o:Oper} (ho:ops[i]?=some o):(∀e∈o.after,e.on<i)/\∀g b,o.guard=some (g,b)->g<i:=by
 have hi:=(Array.getElem?_eq_some_iff.1 ho).1;have h1:=List.all_eq_true.1 h i (List.mem_range.2 hi);simp only [ho,Bool.and_eq_true] at h1;refine ⟨fun e he=>?_,fun g b hg=>?_⟩
 · have:=Array.all_eq_true'.1 h1.1 e he
   simpa using this
 · have:=h1.2
   rw [hg] at this;simpa using this
theorem ready_some {ops:Array Oper} {listed:Array Bool} (hs:listed.size=ops.size) (hb:backB ops=true):∀(j:Nat),j<ops.size->listed.getD j true=false->Region.ready .any ops listed≠[]:=by
 intro j;induction j using Nat.strongRecOn with
 | ind j ih=>
 intro hj hun;obtain ⟨o,ho⟩:∃o,ops[j]?=some o:=⟨ops[j],by simp [hj]⟩;by_cases hall:o.after.all (fun e=>!Region.binds .any e || listed.getD e.on false)=true
 · intro h0
   have:j∈Region.ready .any ops listed:=by
     unfold Region.ready;rw [List.mem_filter];refine ⟨List.mem_range.2 hj,?_⟩;rw [hun,ho];simpa using hall
   rw [h0] at this;cases this
 · rw [Bool.not_eq_true,Array.all_eq_false'] at hall
   obtain ⟨e,he,h1⟩:=hall;have hlt:=(back_at hb ho).1 e he;have h2:listed.getD e.on false=false:=by
     cases h:listed.getD e.on false with
     | false=>rfl
     | true=>rw [h] at h1;simp at h1
   refine ih e.on hlt (by omega) ?_;have hlt' : e.on<listed.size:=by omega
   simp [hlt'] at h2 ⊢;exact h2
end Go.Proofs.YtagkgfniihiinaaGreatDoor
namespace Go.Proofs.YtagkgfniihiinaaGreatDoor
open Go Go.RowKit
structure More where
 objs:Array Obj
 count:Nat
instance:Inhabited More:=⟨⟨#[],0⟩⟩
def grow (W:World) (x:More):World:={ W with heap:=W.heap++x.objs,drawn:=x.count }
theorem Ag (W:World) (x:More):Below W.heap.size W (grow W x):=
 ⟨rfl,rfl,rfl,by simp [grow],fun k hk=>by simp [grow,Array.getElem?_append_left hk]⟩
theorem grow_of {W w:World} (h:Below W.heap.size W w):∃x,w=grow W x:=by
 refine ⟨⟨w.heap.extract W.heap.size w.heap.size,w.drawn⟩,?_⟩;obtain ⟨h1,h2,h3,h4,h5⟩:=h;cases w with
 | mk heap tape drawn os output=>
   simp only at h1 h2 h3 h4 h5;subst h1 h2 h3;simp only [grow,World.mk.injEq,true_and,and_true];apply Array.ext
   · simp;omega
   · intro k hk1 hk2
     by_cases hk:k<W.heap.size
     · have:=h5 k hk
       simp [hk,hk1] at this;rw [Array.getElem_append_left hk];exact this
     · rw [Array.getElem_append_right (by omega)]
       simp only [Array.getElem_extract];congr 1;omega
@[go_sem] theorem grow_cell {W:World} {x:More} {b o:Nat} {s:Option Nat} (h:b<W.heap.size):(grow W x).cell? ⟨b,o,s⟩=W.cell? ⟨b,o,s⟩:=(Ag W x).cell (p:=⟨b,o,s⟩) h
@[go_sem] theorem grow_frozen {W:World} {x:More} {b o:Nat} {s:Option Nat} (h:b<W.heap.size):(grow W x).frozen? ⟨b,o,s⟩=W.frozen? ⟨b,o,s⟩:=(Ag W x).frozen (p:=⟨b,o,s⟩) h
theorem grow_more {W:World} {x:More} {w:World} (h:Below (grow W x).heap.size (grow W x) w):∃y,w=grow W y:=
 grow_of ((Ag W x).trans (h.mono (Ag W x).size))
theorem A4 {P:Program} {f:FuncId} {args:Array Value} {W:World} {x:More} {v:Value}
   (h:Calls P f args (grow W x) fun e w' => e=.returned v/\Below (grow W x).heap.size (grow W x) w'):Calls P f args (grow W x) fun e w'' => e=.returned v/\∃y,w'' = grow W y:=
 h.mono fun _ _ ⟨he,hb⟩=>⟨he,grow_more hb⟩
theorem Af {P:Program} {id:Nat} {Q:Exit->Act->World->Prop} {a:Act} {w:World} {l:List Oper} (hm:P.follows .mixedOrders=true) (hB:Region.lexB .any l.toArray=true)
   (h:wpQuiet P l.toArray (fun w' => ∃x,w' = grow w x) (fun a' => ∀w', (∃x,w' = grow w x)->Q .normal a' w') l a):(Code.region id l.toArray true).wp P Q a w:=
 wp_region_quiet (C:=fun w' => ∃x,w' = grow w x) hm hB (grow_of ((Below.refl _ w).drew)) (by simpa using h)
def Di (P:Program) (o:Oper) (a:Act) (w:World) (R:Value->World->Prop):Prop:=
 match (execOp a.eval o).run P w with
 | .ok (.value u) w' => R u w'
 | .ok .skip w' => R undef w'
 | .ok (.enter f args) w' => Calls P f args w' fun e w'' => ∃v,e=.returned v/\R v w''
 | .ok (.row row args) w' => Rows P row args w' R
 | _=>False
theorem wp_of_gives {P:Program} {o:Oper} {a:Act} {w:World} {R:Value->World->Prop} {K:Act->World->Prop} {Q:Exit->Act->World->Prop} (h:Di P o a w R) (hk:∀v w', R v w' -> K (a.put o.dst v) w'):o.wp P a w K Q:=by
 unfold Di at h;unfold Oper.wp;generalize (execOp a.eval o).run P w=r at h ⊢;cases r with
 | ok n w' =>
   cases n<;>simp only [Oper.upon] at h ⊢
   case value u=>exact hk _ _ h
   case skip=>exact hk _ _ h
   case enter f args=>exact h.mono fun e w'' ⟨v,he,hr⟩=>by subst he;exact hk _ _ hr
   case row row args=>exact Rows.mono h fun v w'' hr=>hk _ _ hr
   all_goals exact h.elim
 | halt x w' => exact h.elim
theorem gives_value {P:Program} {o:Oper} {a:Act} {w w' : World} {R:Value->World->Prop} {u:Value} (h:(execOp a.eval o).run P w=.ok (.value u) w') (hr:R u w'):Di P o a w R:=by unfold Di;rw [h];exact hr
theorem gives_skip {P:Program} {o:Oper} {a:Act} {w w' : World} {R:Value->World->Prop} (h:(execOp a.eval o).run P w=.ok .skip w') (hr:R undef w'):Di P o a w R:=by unfold Di;rw [h];exact hr
def Had (l:List Oper) (G:Nat->Value->World->Prop) (k:Nat) (a:Act) (w:World):Prop:=∃v,G k v w/\∀o d,l[k]?=some o->o.dst=some d->a.tmps.getD d undef=v
def dstsB (l:List Oper) (n:Nat):Bool:=(l.filterMap (·.dst)).all (fun d=>decide (d<n)) && decide (l.filterMap (·.dst)).Nodup
def F4 (l:List Oper) (k i:Nat):Bool:=match l[k]? with | some o=>o.after.any (fun e=>Region.binds .any e && decide (e.on=i)) | none=>false
def exB (l:List Oper) (E:Nat->Nat->Bool) (i k:Nat):Bool:=E i k || (match l[i]? with | some o=>o.after.any (fun e=>Region.binds .any e && E e.on k) | none=>false) || F4 l k i
def isIn (ps:List Nat) (i:Nat):Bool:=ps.contains i
def eats (ps:List (Nat × Nat)) (i k:Nat):Bool:=ps.contains (i,k)
structure RInv (l:List Oper) (C I:World->Prop) (G:Nat->Value->World->Prop) (E:Nat->Nat->Bool) (F:Nat->Bool) (a0:Act) (listed:Array Bool) (a:Act) (w:World):Prop where
 c:C w
 defers:a.defers=a0.defers
 size:a.tmps.size=a0.tmps.size
 rest:∀t,(∀o∈l,o.dst≠some t)->a.tmps.getD t undef=a0.tmps.getD t undef
 had:∀k,k<l.length->listed.getD k false=true->(∀i,E i k=true->listed.getD i false=false)->Had l G k a w
 init:(∀j,F j=true->listed.getD j false=false)->I w
 closed:∀k o,l[k]?=some o->listed.getD k false=true->∀e∈o.after,Region.binds .any e=true->listed.getD e.on false=true
structure Finds (l:List Oper) (C I:World->Prop) (G:Nat->Value->World->Prop) (E:Nat->Nat->Bool) (F:Nat->Bool) (a0:Act) (i:Nat) (o:Oper) (a:Act) (w:World):Prop where
 c:C w
 size:a.tmps.size=a0.tmps.size
 rest:∀t,(∀o∈l,o.dst≠some t)->a.tmps.getD t undef=a0.tmps.getD t undef
 had:∀e∈o.after,Region.binds .any e=true->(∀j,E j e.on=true->j=i)->Had l G e.on a w
 init:(∀j,F j=true->j=i\/F4 l j i=true)->I w
theorem dst_ne:∀{l:List Oper},(l.filterMap (·.dst)).Nodup->∀{i k:Nat} {oi ok:Oper} {d d' : Tmp},l[i]?=some oi->l[k]?=some ok->i≠k->oi.dst=some d->ok.dst=some d' -> d≠d'
 | [],_,i,k,oi,ok,d,d', hi,_,_,_,_=>by simp at hi
 | o :: l,hn,i,k,oi,ok,d,d', hi,hk,hne,hd,hd' => by
   have hn' : (l.filterMap (·.dst)).Nodup:=by
     cases h:o.dst with
     | none=>rw [List.filterMap_cons_none h] at hn;exact hn
     | some x=>rw [List.filterMap_cons_some h] at hn;exact (List.nodup_cons.1 hn).2
   rcases i with _ | i<;>rcases k with _ | k
   · exact absurd rfl hne
   · simp at hi;subst hi
     rw [List.filterMap_cons_some hd] at hn;intro e;subst e;exact (List.nodup_cons.1 hn).1 (List.mem_filterMap.2 ⟨ok,List.mem_of_getElem? (by simpa using hk),hd'⟩)
   · simp at hk;subst hk
     rw [List.filterMap_cons_some hd'] at hn;intro e;subst e;exact (List.nodup_cons.1 hn).1 (List.mem_filterMap.2 ⟨oi,List.mem_of_getElem? (by simpa using hi),hd⟩)
   · exact dst_ne hn' (by simpa using hi) (by simpa using hk) (fun e=>hne (by rw [e])) hd hd'
theorem Cp {a:Act} {d:Tmp} {v:Value} (h:d<a.tmps.size):(a.put (some d) v).tmps.getD d undef=v:=by
 simp [Act.put,h]
theorem B3 {a:Act} {x:Option Tmp} {v:Value} {t:Nat} (h:x≠some t):(a.put x v).tmps.getD t undef=a.tmps.getD t undef:=by
 cases x with
 | none=>rfl
 | some d=>simp [Act.put,Array.getElem?_setIfInBounds_ne (show d≠t from fun e=>h (by rw [e]))]
theorem Dz {a:Act} {x:Option Tmp} {v:Value}:(a.put x v).tmps.size=a.tmps.size:=by cases x<;>simp [Act.put]
theorem Ez {a:Act} {x:Option Tmp} {v:Value}:(a.put x v).defers=a.defers:=by cases x<;>rfl
theorem RInv.step {l:List Oper} {C I:World->Prop} {F:Nat->Bool} {G:Nat->Value->World->Prop} {a0:Act} {listed:Array Bool} {a:Act} {w w' : World} {E:Nat->Nat->Bool} (h:RInv l C I G E F a0 listed a w) (hn:(l.filterMap (·.dst)).Nodup) (hsz:∀d∈l.filterMap (·.dst),d<a0.tmps.size)
   {i:Nat} {o:Oper} {v:Value} (hi:l[i]?=some o) (hs:listed.size=l.length) (hun:listed.getD i true=false) (hc:C w') (haf:∀e∈o.after,Region.binds .any e=true->listed.getD e.on false=true) (hst:∀k u,k≠i->exB l E i k=false->G k u w->G k u w') (hin:F i=false->I w->I w') (hv:G i v w'):RInv l C I G E F a0 (listed.setIfInBounds i true) (a.put o.dst v) w' := by
 refine ⟨hc,Ez.trans h.defers,Dz.trans h.size,fun t ht=>?_,fun k hk hl he=>?_,fun hj=>?_,fun k ok hok hl e he hb=>?_⟩
 · rw [B3 (ht o (List.mem_of_getElem? hi))];exact h.rest t ht
 · by_cases hki:k=i
   · subst hki
     refine ⟨v,hv,fun o' d ho hd=>?_⟩;rw [hi] at ho;cases ho;rw [hd,Cp];rw [h.size];exact hsz d (List.mem_filterMap.2 ⟨o,List.mem_of_getElem? hi,hd⟩)
   · have hl' : listed.getD k false=true:=by rw [<-hl];simp [Array.getElem?_setIfInBounds_ne (Ne.symm hki)]
     have hil:i<listed.size:=by rw [hs];exact (List.getElem?_eq_some_iff.1 hi).1
     have hik:E i k=false:=by
       cases hh:E i k with
       | false=>rfl
       | true=>have:=he i hh;simp [hil] at this
     have hex:exB l E i k=false:=by
       unfold exB;rw [hik,hi,Bool.false_or,Bool.or_eq_false_iff];refine ⟨?_,?_⟩
       · dsimp only
         rw [Array.any_eq_false'];intro e hem h1;simp only [Bool.and_eq_true] at h1;have h2:=he e.on h1.2;rw [getD_set_true (haf e hem h1.1)] at h2;cases h2
       · unfold F4
         split
         · rename_i ok hok
           rw [Array.any_eq_false'];intro e hem h1;simp only [Bool.and_eq_true,decide_eq_true_eq] at h1;have h2:=h.closed k ok hok hl' e hem h1.1;rw [h1.2] at h2;simp [hil] at h2 hun;rw [h2] at hun;cases hun
         · rfl
     obtain ⟨u,hu,hd⟩:=h.had k hk hl' (fun j hj=>by
       have h1:=he j hj;by_cases hji:i=j
       · subst hji;rw [hik] at hj;cases hj
       · rw [getD_set_ne false hji] at h1;exact h1)
     refine ⟨u,hst k u hki hex hu,fun o' d ho hd' => ?_⟩;rw [B3 (fun e=>dst_ne hn hi ho (Ne.symm hki) e hd' rfl)];exact hd o' d ho hd'
 · have hil:i<listed.size:=by rw [hs];exact (List.getElem?_eq_some_iff.1 hi).1
   have hF:F i=false:=by
     cases hh:F i with
     | false=>rfl
     | true=>have:=hj i hh;simp [hil] at this
   refine hin hF (h.init fun j hjF=>?_);by_cases hji:i=j
   · subst hji;rw [hF] at hjF;cases hjF
   · have:=hj j hjF;rw [getD_set_ne false hji] at this;exact this
 · by_cases hki:k=i
   · subst hki
     rw [hi] at hok;cases hok;exact getD_set_true (haf e he hb)
   · rw [getD_set_ne false (Ne.symm hki)] at hl
     exact getD_set_true (h.closed k ok hok hl e he hb)
theorem wpAny_rely {P:Program} {l:List Oper} {C I:World->Prop} {F:Nat->Bool} {R:Nat->World->World->Prop} {G:Nat->Value->World->Prop} {E:Nat->Nat->Bool} {a0:Act} {Q:Exit->Act->World->Prop} (hb:backB l.toArray=true) (hn:(l.filterMap (·.dst)).Nodup) (hsz:∀d∈l.filterMap (·.dst),d<a0.tmps.size)
   (hst:∀i k u w w', k≠i->exB l E i k=false->G k u w->R i w w' -> G k u w') (hin:∀i w w', F i=false->I w->R i w w' -> I w')
   (hvc:∀i o,l[i]?=some o->∀a w,Finds l C I G E F a0 i o a w->if Region.wanted o (yielded l.toArray a.tmps) then Di P o a w (fun v w' => C w' /\ R i w w' /\ G i v w') else G i undef w)
   (hQ:∀listed a w,RInv l C I G E F a0 listed a w->(∀k,k<l.length->(∀i,i<l.length->E i k=false)->Had l G k a w)->Q .normal a w):∀(fuel:Nat) (listed:Array Bool) (a:Act) (w:World),listed.size=l.length->listed.toList.count false=fuel->RInv l C I G E F a0 listed a w ->
   wpAny P .any l.toArray Q fuel listed a w:=by
 have hs' : l.toArray.size=l.length:=by simp
 intro fuel
 induction fuel with
 | zero=>
   intro listed a w hs hc h;have hall:∀j,j<l.length->listed.getD j true=true:=fun j hj=>by
     cases hh:listed.getD j true with
     | true=>rfl
     | false=>
       have hlt:j<listed.size:=by omega
       have:false∈listed.toList:=by
         have e:listed[j]=false:=by simpa [hlt] using hh
         rw [<-e];exact Array.getElem_mem_toList hlt
       have:=List.count_pos_iff.2 this;omega
   refine ⟨?_,hQ listed a w h (fun k hk he=>h.had k hk ?_ (fun i hi=>?_))⟩
   · unfold Region.ready
     rw [List.filter_eq_nil_iff];intro i hi;have hi:=List.mem_range.1 hi;rw [hall i (by simpa using hi)];simp
   · have:=hall k hk
     have hlt:k<listed.size:=by omega
     simp [hlt] at this ⊢;exact this
   · by_cases hlt:i<l.length
     · rw [he i hlt] at hi;cases hi
     · have:listed.size<=i:=by omega
       simp [Array.getElem?_eq_none this]
 | succ fuel ih=>
   intro listed a w hs hc h;obtain ⟨j,hj,hun⟩:∃j,j<l.length/\listed.getD j true=false:=by
     have:false∈listed.toList:=List.count_pos_iff.1 (by omega);obtain ⟨j,hj,he⟩:=List.getElem_of_mem this;have hj' : j<listed.size:=by simpa using hj
     exact ⟨j,by omega,by simp [hj'];simpa using he⟩
   have hne:=ready_some (ops:=l.toArray) (by omega) hb j (by omega) hun;refine ⟨fun h0=>absurd h0 hne,fun i hi=>?_⟩;obtain ⟨hli,o,ho,hafter⟩:=mem_ready.1 hi;have ho' : l[i]?=some o:=by simpa using ho
   have hil:=(List.getElem?_eq_some_iff.1 ho').1;have hlt:i<listed.size:=by omega
   have hget:listed.toList[i]?=some false:=by
     have e:listed[i]=false:=by simpa [hlt] using hli
     simp [hlt,e]
   have hset:(listed.setIfInBounds i true).size=l.length:=by simpa using hs
   have hcnt:(listed.setIfInBounds i true).toList.count false=fuel:=by
     have:=Fp listed.toList i hget;simp only [Array.toList_setIfInBounds];omega
   have hv:=hvc i o ho' a w ⟨h.c,h.size,h.rest,fun e he hbd hE=>h.had e.on (by have:=(back_at hb ho).1 e he;omega) (hafter e he hbd) (fun j hj=>by
     have:=hE j hj;subst this;simp [hlt] at hli ⊢;exact hli),fun hF=>h.init fun j hj=>by
     have hui:listed.getD i false=false:=by simp [hlt] at hli ⊢;exact hli
     rcases hF j hj with e | e
     · subst e;exact hui
     · cases hh:listed.getD j false with
       | false=>rfl
       | true=>
         unfold F4 at e;split at e
         · rename_i oj hoj
           obtain ⟨ed,he,h1⟩:=Array.any_eq_true'.1 e;simp only [Bool.and_eq_true,decide_eq_true_eq] at h1;have:=h.closed j oj hoj hh ed he h1.1;rw [h1.2,hui] at this;cases this
         · cases e⟩
   unfold wpOp;rw [ho];dsimp only;split
   · rename_i hw
     rw [if_pos hw] at hv;exact .inl (wp_of_gives hv fun v w' ⟨h1,h2,h3⟩=>ih _ _ _ hset hcnt (h.step hn hsz ho' hs hli h1 hafter (fun k u hk hek hu=>hst i k u w w' hk hek hu h2) (fun hf hi=>hin i w w' hf hi h2) h3))
   · rename_i hw
     rw [if_neg hw] at hv;exact ih _ _ _ hset hcnt (h.step hn hsz ho' hs hli h.c hafter (fun k u _ _ hu=>hu) (fun _ hi=>hi) hv)
def putFrom:List Oper->Nat->(Nat->Value)->Act->Act
 | [],_,_,a=>a
 | o :: l,k,vs,a=>putFrom l (k+1) vs (a.put o.dst (vs k))
theorem putFrom_size:∀(l:List Oper) (k:Nat) (vs:Nat->Value) (a:Act),(putFrom l k vs a).tmps.size=a.tmps.size
 | [],_,_,_=>rfl
 | o :: l,k,vs,a=>by rw [putFrom,putFrom_size l];exact Dz
theorem putFrom_defers:∀(l:List Oper) (k:Nat) (vs:Nat->Value) (a:Act),(putFrom l k vs a).defers=a.defers
 | [],_,_,_=>rfl
 | o :: l,k,vs,a=>by rw [putFrom,putFrom_defers l];exact Ez
theorem putFrom_rest:∀(l:List Oper) (k:Nat) (vs:Nat->Value) (a:Act) (t:Nat),(∀o∈l,o.dst≠some t)->(putFrom l k vs a).tmps.getD t undef=a.tmps.getD t undef
 | [],_,_,_,_,_=>rfl
 | o :: l,k,vs,a,t,h=>by
   rw [putFrom,putFrom_rest l _ _ _ t (fun o' ho' => h o' (List.mem_cons_of_mem _ ho'))];exact B3 (h o (by simp))
theorem putFrom_at:∀(l:List Oper) (k:Nat) (vs:Nat->Value) (a:Act),(l.filterMap (·.dst)).Nodup->(∀d∈l.filterMap (·.dst),d<a.tmps.size)->∀(i:Nat) (o:Oper) (d:Tmp),l[i]?=some o->o.dst=some d->(putFrom l k vs a).tmps.getD d undef=vs (k+i)
 | [],_,_,_,_,_,i,_,_,hi,_=>by simp at hi
 | o :: l,k,vs,a,hn,hsz,i,o', d,hi,hd=>by
   have hn' : (l.filterMap (·.dst)).Nodup:=by
     cases h:o.dst with
     | none=>rw [List.filterMap_cons_none h] at hn;exact hn
     | some x=>rw [List.filterMap_cons_some h] at hn;exact (List.nodup_cons.1 hn).2
   have hsz' : ∀d∈l.filterMap (·.dst),d<(a.put o.dst (vs k)).tmps.size:=fun d hd=>by
     rw [Dz];obtain ⟨x,hx,hxd⟩:=List.mem_filterMap.1 hd;exact hsz d (List.mem_filterMap.2 ⟨x,List.mem_cons_of_mem _ hx,hxd⟩)
   rw [putFrom];rcases i with _ | i
   · simp at hi;subst hi
     rw [putFrom_rest,hd,Cp];· rfl
     · exact hsz d (List.mem_filterMap.2 ⟨o,by simp,hd⟩)
     · intro o' ho' e
       rw [List.filterMap_cons_some hd] at hn;exact (List.nodup_cons.1 hn).1 (List.mem_filterMap.2 ⟨o', ho', e⟩)
   · rw [putFrom_at l (k+1) vs _ hn' hsz' i o' d (by simpa using hi) hd]
     congr 1;omega
theorem rely_frame {l:List Oper} {C I:World->Prop} {F:Nat->Bool} {G:Nat->Value->World->Prop} {E:Nat->Nat->Bool} {a0:Act} {listed:Array Bool} {a:Act} {w:World} (hn:(l.filterMap (·.dst)).Nodup) (hsz:∀d∈l.filterMap (·.dst),d<a0.tmps.size) (h:RInv l C I G E F a0 listed a w)
   (hall:∀k,k<l.length->(∀i,i<l.length->E i k=false)->Had l G k a w):∃vs:Nat->Value,a=putFrom l 0 vs a0/\∀k,k<l.length->(∀i,i<l.length->E i k=false)->G k (vs k) w:=by
 have key:∃vs:Nat->Value,∀k,k<l.length->((∀i,i<l.length->E i k=false)->G k (vs k) w)/\∀o d,l[k]?=some o->o.dst=some d->a.tmps.getD d undef=vs k:=by
   have pt:∀k,∃v,k<l.length->((∀i,i<l.length->E i k=false)->G k v w)/\∀o d,l[k]?=some o->o.dst=some d->a.tmps.getD d undef=v:=by
     intro k;by_cases hk:k<l.length
     · by_cases he:∀i,i<l.length->E i k=false
       · obtain ⟨v,h1,h2⟩:=hall k hk he
         exact ⟨v,fun _=>⟨fun _=>h1,h2⟩⟩
       · cases hd:(l[k]).dst with
         | none=>exact ⟨undef,fun _=>⟨fun h=>absurd h he,fun o d ho hdd=>by rw [List.getElem?_eq_getElem hk] at ho;cases ho;rw [hd] at hdd;cases hdd⟩⟩
         | some d=>exact ⟨a.tmps.getD d undef,fun _=>⟨fun h=>absurd h he,fun o d' ho hdd=>by rw [List.getElem?_eq_getElem hk] at ho;cases ho;rw [hd] at hdd;cases hdd;rfl⟩⟩
     · exact ⟨undef,fun h=>absurd h hk⟩
   exact ⟨fun k=>Classical.choose (pt k),fun k hk=>Classical.choose_spec (pt k) hk⟩
 obtain ⟨vs,hvs⟩:=key
 refine ⟨vs,?_,fun k hk he=>(hvs k hk).1 he⟩
 have e1:a.tmps=(putFrom l 0 vs a0).tmps:=by
   apply Array.ext
   · rw [h.size,putFrom_size]
   · intro t h1 h2
     have g1:a.tmps[t]=a.tmps.getD t undef:=by simp [h1]
     have g2:(putFrom l 0 vs a0).tmps[t]=(putFrom l 0 vs a0).tmps.getD t undef:=by simp [h2]
     rw [g1,g2];by_cases hx:∃(k:Nat) (o:Oper),l[k]?=some o/\o.dst=some t
     · obtain ⟨k,o,ho,hdt⟩:=hx
       rw [(hvs k (List.getElem?_eq_some_iff.1 ho).1).2 o t ho hdt,putFrom_at l 0 vs a0 hn hsz k o t ho hdt,Nat.zero_add]
     · have hno:∀o∈l,o.dst≠some t:=fun o hom e=>by
         obtain ⟨k,hk,rfl⟩:=List.getElem_of_mem hom;exact hx ⟨k,l[k],by simp [hk],e⟩
       rw [h.rest t hno,putFrom_rest l 0 vs a0 t hno]
 have e2:=h.defers
 have e3:=putFrom_defers l 0 vs a0
 cases a;cases hp:putFrom l 0 vs a0
 rw [hp] at e1 e3
 simp only at e1 e2 e3
 subst e1;simp only [Act.mk.injEq,true_and];rw [e2,e3]
def VC (P:Program) (l:List Oper) (C I:World->Prop) (R:Nat->World->World->Prop) (G:Nat->Value->World->Prop) (E:Nat->Nat->Bool) (F:Nat->Bool) (a0:Act) (i:Nat) (o:Oper):Prop:=
 ∀a w,Finds l C I G E F a0 i o a w->if Region.wanted o (yielded l.toArray a.tmps) then Di P o a w (fun v w' => C w' /\ R i w w' /\ G i v w') else G i undef w
def VCs (P:Program) (l:List Oper) (C I:World->Prop) (R:Nat->World->World->Prop) (G:Nat->Value->World->Prop) (E:Nat->Nat->Bool) (F:Nat->Bool) (a0:Act):List Oper->Nat->Prop
 | [],_=>True
 | o :: r,i=>VC P l C I R G E F a0 i o/\VCs P l C I R G E F a0 r (i+1)
theorem VCs.at {P:Program} {l:List Oper} {C I:World->Prop} {F:Nat->Bool} {R:Nat->World->World->Prop} {G:Nat->Value->World->Prop} {E:Nat->Nat->Bool} {a0:Act}:∀{r:List Oper} {j:Nat},VCs P l C I R G E F a0 r j->∀(i:Nat) (o:Oper),r[i]?=some o->VC P l C I R G E F a0 (j+i) o
 | [],_,_,i,o,h=>by simp at h
 | o' :: r,j,h,i,o,ho=>by
   rcases i with _ | i
   · simp at ho;subst ho;exact h.1
   · have:=h.2.at i o (by simpa using ho)
     rw [show j+(i+1)=j+1+i by omega];exact this
theorem VC.plain {P:Program} {l:List Oper} {C I:World->Prop} {F:Nat->Bool} {R:Nat->World->World->Prop} {G:Nat->Value->World->Prop} {E:Nat->Nat->Bool} {a0:Act} {i:Nat} {o:Oper} (hg:o.guard=none) (h:∀a w,Finds l C I G E F a0 i o a w->Di P o a w (fun v w' => C w' /\ R i w w' /\ G i v w')):VC P l C I R G E F a0 i o:=fun a w hf=>by
 rw [if_pos (by unfold Region.wanted;rw [hg])];exact h a w hf
theorem wp_region_rely {P:Program} {id:Nat} {l:List Oper} {Q:Exit->Act->World->Prop} {a0:Act} {w:World} (C I:World->Prop) (R:Nat->World->World->Prop) (G:Nat->Value->World->Prop) (E:Nat->Nat->Bool) (F:Nat->Bool) (hm:P.follows .mixedOrders=true) (hb:backB l.toArray=true) (hd:dstsB l a0.tmps.size=true)
   (hC:C w.drew) (hI:I w.drew) (hst:∀i k u w w', k≠i->exB l E i k=false->G k u w->R i w w' -> G k u w') (hin:∀i w w', F i=false->I w->R i w w' -> I w') (hvc:VCs P l C I R G E F a0 l 0)
   (hQ:∀(vs:Nat->Value) w,C w->(∀k,k<l.length->(∀i,i<l.length->E i k=false)->G k (vs k) w)->Q .normal (putFrom l 0 vs a0) w):(Code.region id l.toArray true).wp P Q a0 w:=by
 simp only [dstsB,Bool.and_eq_true,decide_eq_true_eq] at hd
 have hsz:∀d∈l.filterMap (·.dst),d<a0.tmps.size:=fun d hdm=>by simpa using List.all_eq_true.1 hd.1 d hdm
 refine wp_region_any hm ?_
 have:=wpAny_rely (P:=P) (l:=l) (C:=C) (I:=I) (F:=F) (R:=R) (G:=G) (E:=E) (a0:=a0) (Q:=Q) hb hd.2 hsz hst hin (fun i o ho=>by have:=hvc.at i o ho;rw [Nat.zero_add] at this;exact this) (fun listed a w h hall=>?_) l.length (Array.replicate l.length false) a0 w.drew (by simp) (by simp)
   ⟨hC,rfl,rfl,fun _ _=>rfl,fun k hk h=>by simp [hk] at h,fun _=>hI,fun k o ho h=>by have:=(List.getElem?_eq_some_iff.1 ho).1;simp [this] at h⟩
 · simpa using this
 · obtain ⟨vs,e,hG⟩:=rely_frame hd.2 hsz h hall
   rw [e];exact hQ vs w h.c hG
end Go.Proofs.YtagkgfniihiinaaGreatDoor
