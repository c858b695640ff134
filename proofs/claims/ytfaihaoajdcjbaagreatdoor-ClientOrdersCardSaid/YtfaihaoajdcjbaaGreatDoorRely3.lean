/- A region that draws its order, by a fact for each operation, where a call may panic. No program in sight. -/
import Derived.Test.YtfaihaoajdcjbaaGreatDoorJ30
set_option linter.all false
namespace Go.Proofs.YtfaihaoajdcjbaaGreatDoor.R2.R3
open Go Go.RowKit
def B8 (P:Program) (Z:List PanicEntry->World->Prop) (o:Oper) (a:Act) (w:World) (R:Value->World->Prop):Prop:=
 match (execOp a.eval o).run P w with
 | .ok (.value u) w' => R u w'
 | .ok .skip w' => R undef w'
 | .ok (.enter f args) w' => Calls P f args w' fun e w'' => (∃v,e=.returned v/\R v w'')\/∃c,e=.panicked c/\Z c w''
 | .ok (.row row args) w' => Rows P row args w' R
 | _=>False
theorem wp_of_givesZ {P:Program} {Z:List PanicEntry->World->Prop} {o:Oper} {a:Act} {w:World} {R:Value->World->Prop} {K:Act->World->Prop} {Q:Exit->Act->World->Prop} (h:B8 P Z o a w R) (hz:∀c w', Z c w' -> Q (.panic c) a w') (hk:∀v w', R v w' -> K (a.put o.dst v) w'):o.wp P a w K Q:=by
 unfold B8 at h;unfold Oper.wp;generalize (execOp a.eval o).run P w=r at h ⊢;cases r with
 | ok n w' =>
   cases n<;>simp only [Oper.upon] at h ⊢
   case value u=>exact hk _ _ h
   case skip=>exact hk _ _ h
   case enter f args=>
     refine h.mono fun e w'' he=>?_;rcases he with ⟨v,he,hr⟩ | ⟨c,he,hr⟩
     · subst he;exact hk _ _ hr
     · subst he;exact hz _ _ hr
   case row row args=>exact Rows.mono h fun v w'' hr=>hk _ _ hr
   all_goals exact h.elim
 | halt x w' => exact h.elim
section
variable {P:Program} {Z:List PanicEntry->World->Prop} {o:Oper} {a:Act} {w w' : World} {R:Value->World->Prop}
theorem Ee (h:Bz P o a w R):B8 P Z o a w R:=by
 unfold Bz at h;unfold B8;generalize (execOp a.eval o).run P w=r at h ⊢;cases r with
 | ok n w' =>
   cases n
   case enter f args=>exact Calls.mono h fun e w'' he=>.inl he
   all_goals exact h
 | halt x w' => exact h
theorem gives_value {u:Value} (h:(execOp a.eval o).run P w=.ok (.value u) w') (hr:R u w'):B8 P Z o a w R:=Ee (Go.Proofs.YtfaihaoajdcjbaaGreatDoor.gives_value h hr)
theorem gives_skip (h:(execOp a.eval o).run P w=.ok .skip w') (hr:R undef w'):B8 P Z o a w R:=Ee (Go.Proofs.YtfaihaoajdcjbaaGreatDoor.gives_skip h hr)
theorem gives_callZ {f:FuncId} {args:Array Value} (h:(execOp a.eval o).run P w=.ok (.enter f args) w') (hr:Calls P f args w' fun e w'' => (∃v,e=.returned v/\R v w'')\/∃c,e=.panicked c/\Z c w''):B8 P Z o a w R:=by
 unfold B8;rw [h];exact hr
end
structure RInv (l:List Oper) (C:World->Prop) (I:Bool->World->Prop) (G:Nat->Value->World->Prop) (E:Nat->Nat->Bool) (F:Bool->Nat->Bool) (a0:Act) (listed:Array Bool) (a:Act) (w:World):Prop where
 c:C w
 defers:a.defers=a0.defers
 size:a.tmps.size=a0.tmps.size
 rest:∀t,(∀k o,l[k]?=some o->o.dst=some t->listed.getD k false=false)->a.tmps.getD t undef=a0.tmps.getD t undef
 had:∀k,k<l.length->listed.getD k false=true->(∀i,E i k=true->listed.getD i false=false)->Had l G k a w
 init:∀q,(∀j,F q j=true->listed.getD j false=false)->I q w
 closed:∀k o,l[k]?=some o->listed.getD k false=true->∀e∈o.after,Region.binds .any e=true->listed.getD e.on false=true
theorem RInv.waits {l:List Oper} {C:World->Prop} {I:Bool->World->Prop} {G:Nat->Value->World->Prop} {E:Nat->Nat->Bool} {F:Bool->Nat->Bool} {a0:Act} {listed:Array Bool} {a:Act} {w:World} (h:RInv l C I G E F a0 listed a w) {i:Nat}:∀(f k:Nat),Bh l f k i=true->listed.getD k false=true->listed.getD i false=true
 | 0,k,e,_=>by cases e
 | f+1,k,e,hk=>by
   unfold Bh at e;split at e
   · rename_i o ho
     obtain ⟨ed,he,h1⟩:=Array.any_eq_true'.1 e;simp only [Bool.and_eq_true,Bool.or_eq_true,decide_eq_true_eq] at h1;have h2:=h.closed k o ho hk ed he h1.1;rcases h1.2 with h3 | h3
     · rw [<-h3];exact h2
     · exact h.waits f ed.on h3 h2
   · cases e
structure Finds (l:List Oper) (C:World->Prop) (I:Bool->World->Prop) (G:Nat->Value->World->Prop) (E:Nat->Nat->Bool) (F:Bool->Nat->Bool) (a0:Act) (i:Nat) (o:Oper) (a:Act) (w:World):Prop where
 c:C w
 size:a.tmps.size=a0.tmps.size
 rest:∀t,(∀k o,l[k]?=some o->o.dst=some t->k=i\/Bh l 9 k i=true)->a.tmps.getD t undef=a0.tmps.getD t undef
 had:∀e∈o.after,Region.binds .any e=true->(∀j,E j e.on=true->j=i)->Had l G e.on a w
 init:∀q,(∀j,F q j=true->j=i\/Bh l 9 j i=true)->I q w
theorem RInv.step {l:List Oper} {C:World->Prop} {I:Bool->World->Prop} {F:Bool->Nat->Bool} {G:Nat->Value->World->Prop} {a0:Act} {listed:Array Bool} {a:Act} {w w' : World} {E:Nat->Nat->Bool} (h:RInv l C I G E F a0 listed a w) (hn:(l.filterMap (·.dst)).Nodup) (hsz:∀d∈l.filterMap (·.dst),d<a0.tmps.size)
   {i:Nat} {o:Oper} {v:Value} (hi:l[i]?=some o) (hs:listed.size=l.length) (hun:listed.getD i true=false) (hc:C w') (haf:∀e∈o.after,Region.binds .any e=true->listed.getD e.on false=true) (hst:∀k u,k≠i->exB l E i k=false->G k u w->G k u w') (hin:∀q,F q i=false->I q w->I q w') (hv:G i v w'):RInv l C I G E F a0 (listed.setIfInBounds i true) (a.put o.dst v) w' := by
 refine ⟨hc,Fi.trans h.defers,D5.trans h.size,fun t ht=>?_,fun k hk hl he=>?_,fun q hj=>?_,fun k ok hok hl e he hb=>?_⟩
 · have hil:i<listed.size:=by rw [hs];exact (List.getElem?_eq_some_iff.1 hi).1
   rw [Bx (fun e=>by
     have:=ht i o hi e;rw [Bq hil] at this;cases this)]
   refine h.rest t fun k ok hk hd=>?_;have:=ht k ok hk hd;by_cases hki:i=k
   · subst hki;rw [Bq hil] at this;cases this
   · rw [getD_set_ne false hki] at this;exact this
 · by_cases hki:k=i
   · subst hki
     refine ⟨v,hv,fun o' d ho hd=>?_⟩;rw [hi] at ho;cases ho;rw [hd,Ch];rw [h.size];exact hsz d (List.mem_filterMap.2 ⟨o,List.mem_of_getElem? hi,hd⟩)
   · have hl' : listed.getD k false=true:=by rw [<-hl];simp [Array.getElem?_setIfInBounds_ne (Ne.symm hki)]
     have hil:i<listed.size:=by rw [hs];exact (List.getElem?_eq_some_iff.1 hi).1
     have hik:E i k=false:=by
       cases hh:E i k with
       | false=>rfl
       | true=>have:=he i hh;simp [hil] at this
     have hex:exB l E i k=false:=by
       unfold exB;rw [hik,hi,Bool.false_or,Bool.or_eq_false_iff];refine ⟨?_,?_⟩
       · dsimp only
         rw [Array.any_eq_false'];intro e hem h1;simp only [Bool.and_eq_true] at h1;have h2:=he e.on h1.2;rw [getD_set_true (haf e hem h1.1)] at h2;cases h2
       · unfold waitsB
         split
         · rename_i ok hok
           rw [Array.any_eq_false'];intro e hem h1;simp only [Bool.and_eq_true,decide_eq_true_eq] at h1;have h2:=h.closed k ok hok hl' e hem h1.1;rw [h1.2] at h2;simp [hil] at h2 hun;rw [h2] at hun;cases hun
         · rfl
     obtain ⟨u,hu,hd⟩:=h.had k hk hl' (fun j hj=>by
       have h1:=he j hj;by_cases hji:i=j
       · subst hji;rw [hik] at hj;cases hj
       · rw [getD_set_ne false hji] at h1;exact h1)
     refine ⟨u,hst k u hki hex hu,fun o' d ho hd' => ?_⟩;rw [Bx (fun e=>dst_ne hn hi ho (Ne.symm hki) e hd' rfl)];exact hd o' d ho hd'
 · have hil:i<listed.size:=by rw [hs];exact (List.getElem?_eq_some_iff.1 hi).1
   have hF:F q i=false:=by
     cases hh:F q i with
     | false=>rfl
     | true=>have:=hj i hh;simp [hil] at this
   refine hin q hF (h.init q fun j hjF=>?_);by_cases hji:i=j
   · subst hji;rw [hF] at hjF;cases hjF
   · have:=hj j hjF;rw [getD_set_ne false hji] at this;exact this
 · by_cases hki:k=i
   · subst hki
     rw [hi] at hok;cases hok;exact getD_set_true (haf e he hb)
   · rw [getD_set_ne false (Ne.symm hki)] at hl
     exact getD_set_true (h.closed k ok hok hl e he hb)
theorem wpAny_rely {P:Program} {l:List Oper} {C:World->Prop} {I:Bool->World->Prop} {F:Bool->Nat->Bool} {R:Nat->World->World->Prop} {G:Nat->Value->World->Prop} {E:Nat->Nat->Bool} {a0:Act} {Q:Exit->Act->World->Prop} {Z:List PanicEntry->World->Prop} (hZ:∀c a w,a.defers=a0.defers->Z c w->Q (.panic c) a w) (hb:Ge l.toArray=true) (hn:(l.filterMap (·.dst)).Nodup) (hsz:∀d∈l.filterMap (·.dst),d<a0.tmps.size)
   (hst:∀i k u w w', k≠i->exB l E i k=false->G k u w->R i w w' -> G k u w') (hin:∀q i w w', F q i=false->I q w->R i w w' -> I q w')
   (hvc:∀i o,l[i]?=some o->∀a w,Finds l C I G E F a0 i o a w->if Region.wanted o (yielded l.toArray a.tmps) then B8 P Z o a w (fun v w' => C w' /\ R i w w' /\ G i v w') else G i undef w)
   (hQ:∀listed a w,RInv l C I G E F a0 listed a w->(∀k,k<l.length->(∀i,i<l.length->E i k=false)->Had l G k a w)->Q .normal a w):∀(fuel:Nat) (listed:Array Bool) (a:Act) (w:World),listed.size=l.length->listed.toList.count false=fuel->RInv l C I G E F a0 listed a w ->
   wpAny P .any l.toArray Q fuel listed a w:=by
 have hs' : l.toArray.size=l.length:=by simp
 intro fuel;induction fuel with
 | zero=>
   intro listed a w hs hc h;have hall:∀j,j<l.length->listed.getD j true=true:=fun j hj=>by
     cases hh:listed.getD j true with
     | true=>rfl
     | false=>
       have hlt:j<listed.size:=by omega
       have:false∈listed.toList:=by
         have e:listed[j]=false:=by simpa [hlt] using hh
         rw [<-e];exact Array.getElem_mem_toList hlt
       have:=List.count_pos_iff.2 this;omega
   refine ⟨?_,hQ listed a w h (fun k hk he=>h.had k hk ?_ (fun i hi=>?_))⟩
   · unfold Region.ready
     rw [List.filter_eq_nil_iff];intro i hi;have hi:=List.mem_range.1 hi;rw [hall i (by simpa using hi)];simp
   · have:=hall k hk
     have hlt:k<listed.size:=by omega
     simp [hlt] at this ⊢;exact this
   · by_cases hlt:i<l.length
     · rw [he i hlt] at hi;cases hi
     · have:listed.size<=i:=by omega
       simp [Array.getElem?_eq_none this]
 | succ fuel ih=>
   intro listed a w hs hc h;obtain ⟨j,hj,hun⟩:∃j,j<l.length/\listed.getD j true=false:=by
     have:false∈listed.toList:=List.count_pos_iff.1 (by omega);obtain ⟨j,hj,he⟩:=List.getElem_of_mem this;have hj' : j<listed.size:=by simpa using hj
     exact ⟨j,by omega,by simp [hj'];simpa using he⟩
   have hne:=Ev (ops:=l.toArray) (by omega) hb j (by omega) hun;refine ⟨fun h0=>absurd h0 hne,fun i hi=>?_⟩;obtain ⟨hli,o,ho,hafter⟩:=mem_ready.1 hi;have ho' : l[i]?=some o:=by simpa using ho
   have hil:=(List.getElem?_eq_some_iff.1 ho').1;have hlt:i<listed.size:=by omega
   have hget:listed.toList[i]?=some false:=by
     have e:listed[i]=false:=by simpa [hlt] using hli
     simp [hlt,e]
   have hset:(listed.setIfInBounds i true).size=l.length:=by simpa using hs
   have hcnt:(listed.setIfInBounds i true).toList.count false=fuel:=by
     have:=Ef listed.toList i hget;simp only [Array.toList_setIfInBounds];omega
   have hui:listed.getD i false=false:=by simp [hlt] at hli ⊢;exact hli
   have hno:∀k,k=i\/Bh l 9 k i=true->listed.getD k false=false:=fun k hk=>by
     rcases hk with e | e
     · subst e;exact hui
     · cases hh:listed.getD k false with
       | false=>rfl
       | true=>have:=h.waits 9 k e hh;rw [hui] at this;cases this
   have hv:=hvc i o ho' a w ⟨h.c,h.size,fun t ht=>h.rest t fun k ok hk hd=>hno k (ht k ok hk hd),fun e he hbd hE=>h.had e.on (by have:=(Fc hb ho).1 e he hbd;omega) (hafter e he hbd) (fun j hj=>by
     have:=hE j hj;subst this;exact hui),fun q hF=>h.init q fun j hj=>hno j (hF j hj)⟩
   unfold wpOp;rw [ho];dsimp only;split
   · rename_i hw
     rw [if_pos hw] at hv;exact .inl (wp_of_givesZ hv (fun c w1 hz=>hZ c a w1 h.defers hz) fun v w' ⟨h1,h2,h3⟩=>ih _ _ _ hset hcnt (h.step hn hsz ho' hs hli h1 hafter (fun k u hk hek hu=>hst i k u w w' hk hek hu h2) (fun q hf hi=>hin q i w w' hf hi h2) h3))
   · rename_i hw
     rw [if_neg hw] at hv;exact ih _ _ _ hset hcnt (h.step hn hsz ho' hs hli h.c hafter (fun k u _ _ hu=>hu) (fun _ _ hi=>hi) hv)
theorem rely_frame {l:List Oper} {C:World->Prop} {I:Bool->World->Prop} {F:Bool->Nat->Bool} {G:Nat->Value->World->Prop} {E:Nat->Nat->Bool} {a0:Act} {listed:Array Bool} {a:Act} {w:World} (hn:(l.filterMap (·.dst)).Nodup) (hsz:∀d∈l.filterMap (·.dst),d<a0.tmps.size) (h:RInv l C I G E F a0 listed a w)
   (hall:∀k,k<l.length->(∀i,i<l.length->E i k=false)->Had l G k a w):∃vs:Nat->Value,a=Al l 0 vs a0/\∀k,k<l.length->(∀i,i<l.length->E i k=false)->G k (vs k) w:=by
 have key:∃vs:Nat->Value,∀k,k<l.length->((∀i,i<l.length->E i k=false)->G k (vs k) w)/\∀o d,l[k]?=some o->o.dst=some d->a.tmps.getD d undef=vs k:=by
   have pt:∀k,∃v,k<l.length->((∀i,i<l.length->E i k=false)->G k v w)/\∀o d,l[k]?=some o->o.dst=some d->a.tmps.getD d undef=v:=by
     intro k;by_cases hk:k<l.length
     · by_cases he:∀i,i<l.length->E i k=false
       · obtain ⟨v,h1,h2⟩:=hall k hk he
         exact ⟨v,fun _=>⟨fun _=>h1,h2⟩⟩
       · cases hd:(l[k]).dst with
         | none=>exact ⟨undef,fun _=>⟨fun h=>absurd h he,fun o d ho hdd=>by rw [List.getElem?_eq_getElem hk] at ho;cases ho;rw [hd] at hdd;cases hdd⟩⟩
         | some d=>exact ⟨a.tmps.getD d undef,fun _=>⟨fun h=>absurd h he,fun o d' ho hdd=>by rw [List.getElem?_eq_getElem hk] at ho;cases ho;rw [hd] at hdd;cases hdd;rfl⟩⟩
     · exact ⟨undef,fun h=>absurd h hk⟩
   exact ⟨fun k=>Classical.choose (pt k),fun k hk=>Classical.choose_spec (pt k) hk⟩
 obtain ⟨vs,hvs⟩:=key;refine ⟨vs,?_,fun k hk he=>(hvs k hk).1 he⟩;have e1:a.tmps=(Al l 0 vs a0).tmps:=by
   apply Array.ext
   · rw [h.size,Cz]
   · intro t h1 h2
     have g1:a.tmps[t]=a.tmps.getD t undef:=by simp [h1]
     have g2:(Al l 0 vs a0).tmps[t]=(Al l 0 vs a0).tmps.getD t undef:=by simp [h2]
     rw [g1,g2];by_cases hx:∃(k:Nat) (o:Oper),l[k]?=some o/\o.dst=some t
     · obtain ⟨k,o,ho,hdt⟩:=hx
       rw [(hvs k (List.getElem?_eq_some_iff.1 ho).1).2 o t ho hdt,D1 l 0 vs a0 hn hsz k o t ho hdt,Nat.zero_add]
     · have hno:∀o∈l,o.dst≠some t:=fun o hom e=>by
         obtain ⟨k,hk,rfl⟩:=List.getElem_of_mem hom;exact hx ⟨k,l[k],by simp [hk],e⟩
       rw [h.rest t (fun k o ho hd=>absurd hd (hno o (List.mem_of_getElem? ho))),B0 l 0 vs a0 t hno]
 have e2:=h.defers;have e3:=B9 l 0 vs a0;cases a;cases hp:Al l 0 vs a0
 rw [hp] at e1 e3;simp only at e1 e2 e3;subst e1;simp only [Act.mk.injEq,true_and];rw [e2,e3]
def VC (P:Program) (Z:List PanicEntry->World->Prop) (l:List Oper) (C:World->Prop) (I:Bool->World->Prop) (R:Nat->World->World->Prop) (G:Nat->Value->World->Prop) (E:Nat->Nat->Bool) (F:Bool->Nat->Bool) (a0:Act) (i:Nat) (o:Oper):Prop:=
 ∀a w,Finds l C I G E F a0 i o a w->if Region.wanted o (yielded l.toArray a.tmps) then B8 P Z o a w (fun v w' => C w' /\ R i w w' /\ G i v w') else G i undef w
def VCs (P:Program) (Z:List PanicEntry->World->Prop) (l:List Oper) (C:World->Prop) (I:Bool->World->Prop) (R:Nat->World->World->Prop) (G:Nat->Value->World->Prop) (E:Nat->Nat->Bool) (F:Bool->Nat->Bool) (a0:Act):List Oper->Nat->Prop
 | [],_=>True
 | o :: r,i=>VC P Z l C I R G E F a0 i o/\VCs P Z l C I R G E F a0 r (i+1)
theorem VCs.at {P:Program} {Z:List PanicEntry->World->Prop} {l:List Oper} {C:World->Prop} {I:Bool->World->Prop} {F:Bool->Nat->Bool} {R:Nat->World->World->Prop} {G:Nat->Value->World->Prop} {E:Nat->Nat->Bool} {a0:Act}:∀{r:List Oper} {j:Nat},VCs P Z l C I R G E F a0 r j->∀(i:Nat) (o:Oper),r[i]?=some o->VC P Z l C I R G E F a0 (j+i) o
 | [],_,_,i,o,h=>by simp at h
 | o' :: r,j,h,i,o,ho=>by
   rcases i with _ | i
   · simp at ho;subst ho;exact h.1
   · have:=h.2.at i o (by simpa using ho)
     rw [show j+(i+1)=j+1+i by omega];exact this
theorem VC.plain {P:Program} {Z:List PanicEntry->World->Prop} {l:List Oper} {C:World->Prop} {I:Bool->World->Prop} {F:Bool->Nat->Bool} {R:Nat->World->World->Prop} {G:Nat->Value->World->Prop} {E:Nat->Nat->Bool} {a0:Act} {i:Nat} {o:Oper} (hg:o.guard=none) (h:∀a w,Finds l C I G E F a0 i o a w->B8 P Z o a w (fun v w' => C w' /\ R i w w' /\ G i v w')):VC P Z l C I R G E F a0 i o:=fun a w hf=>by
 rw [if_pos (by unfold Region.wanted;rw [hg])];exact h a w hf
theorem wp_region_rely {P:Program} {id:Nat} {l:List Oper} {Q:Exit->Act->World->Prop} {a0:Act} {w:World} (Z:List PanicEntry->World->Prop) (hZ:∀c a w,a.defers=a0.defers->Z c w->Q (.panic c) a w) (C:World->Prop) (I:Bool->World->Prop) (R:Nat->World->World->Prop) (G:Nat->Value->World->Prop) (E:Nat->Nat->Bool) (F:Bool->Nat->Bool) (hm:P.follows .mixedOrders=true) (hb:Ge l.toArray=true) (hd:dstsB l a0.tmps.size=true)
   (hC:C w.drew) (hI:∀q,I q w.drew) (hst:∀i k u w w', k≠i->exB l E i k=false->G k u w->R i w w' -> G k u w') (hin:∀q i w w', F q i=false->I q w->R i w w' -> I q w') (hvc:VCs P Z l C I R G E F a0 l 0)
   (hQ:∀(vs:Nat->Value) w,C w->(∀k,k<l.length->(∀i,i<l.length->E i k=false)->G k (vs k) w)->Q .normal (Al l 0 vs a0) w):(Code.region id l.toArray true).wp P Q a0 w:=by
 simp only [dstsB,Bool.and_eq_true,decide_eq_true_eq] at hd;have hsz:∀d∈l.filterMap (·.dst),d<a0.tmps.size:=fun d hdm=>by simpa using List.all_eq_true.1 hd.1 d hdm
 refine wp_region_any hm ?_
 have:=wpAny_rely (P:=P) (l:=l) (C:=C) (I:=I) (F:=F) (R:=R) (G:=G) (E:=E) (a0:=a0) (Q:=Q) (Z:=Z) hZ hb hd.2 hsz hst hin (fun i o ho=>by have:=hvc.at i o ho;rw [Nat.zero_add] at this;exact this) (fun listed a w h hall=>?_) l.length (Array.replicate l.length false) a0 w.drew (by simp) (by simp)
   ⟨hC,rfl,rfl,fun _ _=>rfl,fun k hk h=>by simp [hk] at h,fun q _=>hI q,fun k o ho h=>by have:=(List.getElem?_eq_some_iff.1 ho).1;simp [this] at h⟩
 · simpa using this
 · obtain ⟨vs,e,hG⟩:=rely_frame hd.2 hsz h hall
   rw [e];exact hQ vs w h.c hG
theorem Finds.old {l:List Oper} {C:World->Prop} {I:Bool->World->Prop} {F:Bool->Nat->Bool} {G:Nat->Value->World->Prop} {E:Nat->Nat->Bool} {a0:Act} {i:Nat} {o:Oper} {a:Act} {w:World} (h:Finds l C I G E F a0 i o a w) (t:Nat) (hl:(List.range l.length).all (fun k=>match l[k]? with | some o=>!(o.dst == some t) || decide (k=i) || Bh l 9 k i | none=>true)=true):a.eval (.tmp t)=a0.tmps.getD t undef:=
 h.rest t fun k o ho e=>by
   have:=List.all_eq_true.1 hl k (List.mem_range.2 (List.getElem?_eq_some_iff.1 ho).1);rw [ho] at this;simpa [e] using this
theorem Finds.start {l:List Oper} {C:World->Prop} {I:Bool->World->Prop} {ps:Bool->List Nat} {G:Nat->Value->World->Prop} {E:Nat->Nat->Bool} {a0:Act} {i:Nat} {o:Oper} {a:Act} {w:World} (h:Finds l C I G E (fun q=>isIn (ps q)) a0 i o a w) (q:Bool) (hb:(ps q).all (fun j=>decide (j=i) || Bh l 9 j i)=true):I q w:=
 h.init q fun j hj=>by
   have:=List.all_eq_true.1 hb j (by simpa [isIn] using hj);simpa using this
theorem Finds.got {l:List Oper} {C:World->Prop} {I:Bool->World->Prop} {F:Bool->Nat->Bool} {G:Nat->Value->World->Prop} {E:Nat->Nat->Bool} {a0:Act} {i:Nat} {o:Oper} {a:Act} {w:World} (h:Finds l C I G E F a0 i o a w) (k:Nat) {ok:Oper} {d:Tmp}
   (hk:o.after.any (fun e=>decide (e.on=k) && Region.binds .any e)=true) (hE:∀j,E j k=true->j=i) (hok:l[k]?=some ok) (hd:ok.dst=some d):∃v,G k v w/\a.eval (.tmp d)=v:=by
 obtain ⟨e,he,h1⟩:=Array.any_eq_true'.1 hk;simp only [Bool.and_eq_true,decide_eq_true_eq] at h1;obtain ⟨h1,h2⟩:=h1;subst h1;exact (h.had e he h2 hE).val hok hd
end Go.Proofs.YtfaihaoajdcjbaaGreatDoor.R2.R3
