/- A range over a method value: the receiver stands ahead of yield (no program in sight). -/
import Derived.Test.YtfaihaoajdcjbaaGreatDoorBase
import Derived.RangeFuncNested
import Derived.RangeFuncLeaves
import Derived.Maps.OwnIn
set_option linter.all false
namespace Go.Proofs.YtfaihaoajdcjbaaGreatDoor
open Go Go.RowKit
def rngL (fn:FuncId) (tmps:Array Value) (ps:Array Tmp) (assign body:Code) (D:Nat) (st:LoopState):Loop:={ state:=st,pending:=none,fn:=fn,tmps:=tmps,params:=ps,assign:=assign,body:=body,defers:=D }
variable {P:Program} {n:Nat}
theorem Fh {g:Operand} {ps:Array Tmp} {assign body:Code} {Q:Exit->Act->World->Prop} {a:Act} {w:World} (h1:1<=n) {gf:Nat} {bd:Array Value} (hg:a.eval g=.func (.func gf) bd #[]) (eg:∀args w,(callFunc gf args).run P w=.ok (.enter gf args) w)
   {K:FuncId->World->Prop}
   (h:∀fn,CallsIn Fence.wide (n - 1) P gf (bd.push (Value.func (.yield (w.heap.size+1)) #[] #[])) ((w.alloc (.deferred (some []))).alloc (.loop (rngL fn a.tmps ps assign body w.heap.size .ready)))
     fun e W=>∃v,e=.returned v/\W.heap[w.heap.size+1]?=some (.loop (rngL fn a.tmps ps assign body w.heap.size .ready))/\K fn W)
   (hQ:∀fn W,K fn W->W.heap[w.heap.size+1]?=some (.loop (rngL fn a.tmps ps assign body w.heap.size .ready))->Q .normal { a with defers:={ target:=.collected w.heap.size,args:=#[] } :: a.defers } (W.putObj (w.heap.size+1) (.loop (rngL fn a.tmps ps assign body w.heap.size .exhausted)))) :
   (Code.rangeFunc g ps assign body).wp P Q a w:=by
 rw [<-wpIn_wide (n:=n)];refine wpIn_rangeFunc ?_;intro fn _;obtain ⟨W1,hW1⟩:∃W1,W1=(w.alloc (.deferred (some []))).alloc (.loop (rngL fn a.tmps ps assign body w.heap.size .ready)):=⟨_,rfl⟩;have hf:=h fn;rw [<-hW1] at hf;refine ⟨w.heap.size+1,[{ target:=.collected w.heap.size,args:=#[] }],W1,{ target:=.fn (.func gf) #[],args:=bd.push (Value.func (.yield (w.heap.size+1)) #[] #[]) },W1,gf,bd.push (Value.func (.yield (w.heap.size+1)) #[] #[]),W1,?_,?_,fun _ _=>trivial,?_,fun _=>h1,hf.mono ?_⟩
 · rw [hW1];exact run_enterLoop_outer _ _ _ _ _
 · simp only [resolve,hg]
   simp [go_sem,rangeCall]
 · simp [invoke,go_sem,eg]
 · rintro e W ⟨v,rfl,hl,hK⟩
   exact ⟨none,_,run_endLoop (P:=P) hl (by simp [rngL]),hQ fn W hK hl⟩
theorem yield_round {ps:Array Tmp} {assign body:Code} {tmps:Array Value} {D l m:Nat} {fn:FuncId} {args:Array Value} {W:World} {R:Ending->World->Prop}
   (hl:W.heap[l]?=some (.loop (rngL fn tmps ps assign body D .ready))) (hs:args.size=ps.size)
   (h:assign.wpIn (Fence.wide.inRound l) m P (Exit.then (fun a₁ w₁=>∃w₂,(Instr.beginRound l).run P w₁=.ok () w₂/\body.wpIn (Fence.wide.inRound l) m P (roundPost P l R) a₁ w₂) (fun _ _ _=>False))
     { tmps:=(ps.zip args).foldl (fun t (p,v)=>t.setIfInBounds p v) tmps,defers:=[] } W):YieldAt Fence.wide m P l args W R:=
 ⟨fn,_,assign,body,run_yield hl hs,roundIn_of_wpIn trivial h⟩
theorem F2 {F:Fence} {w0:World} {ops:Array Oper} {rest:List Oper} {o:Oper} {a:Act} {Q:Exit->Act->World->Prop} {s x:Operand} {t e base size bytes k:Nat} {v:Value} {xs:List Value} {us:Array Value}
   (hgd:o.guard=none) (ho:o.op=.call { callee:=.builtin .append,args:=#[s,x],argTypes:=#[t,t] }) (E:Elem P t e size bytes)
   (hs:a.eval s=v) (hown:w0.ownsRow base e size v k xs) (hx:a.eval x=.slice (some ⟨w0.heap.size,0,none⟩) 1 1) (hus:us.size=size) (h1:us.toList.all (fun u=>u.oneCell')=true)
   (hn:k<1000000000) (hbase:base<=w0.heap.size)
   (h:∀v' w', w'.ownsRow base e size v' (k+1) (xs++us.toList)->Fr (fun k=>v.ownBlock=some k) w0 w' -> (∀k,v'.ownBlock=some k->v.ownBlock=some k\/w0.heap.size<k)->wpListIn F n P ops Q rest (a.put o.dst v') w'):wpListIn F n P ops Q (o :: rest) a (w0.alloc (.cells us e)):=by
 obtain ⟨ht,hsz,hb,i,z,hi,hz,hi1,hi2,hz1⟩:=E;refine wpListIn_append_own_at _ hgd s x t ho base e i z size bytes ht hi hz hi1 hi2 hz1 hsz v k xs hs (hown.alloc _) ⟨w0.heap.size,0,none⟩ 1 1 us.toList hx (by simp [hus]) ?_ ?_ ?_ ?_ ?_ ?_
 · intro j u hj
   have e1:(⟨w0.heap.size,0,none⟩:Addr).add j=⟨w0.heap.size,j,none⟩:=by
     unfold Addr.add;split
     · rename_i h;rw [h]
     · simp
   rw [e1,World.cell?_alloc_new];simpa using hj
 · intro u hu;exact List.all_eq_true.1 h1 u hu
 · unfold maxLen;omega
 · have:(k+1) * bytes<=1000000000 * 100000:=Nat.mul_le_mul (by omega) hb
   omega
 · simp;omega
 · intro v' w' g1 g2 _ g4
   refine h v' w' g1 ⟨g2.os,g2.tape,g2.output,by have:=g2.size;simp at this;omega,fun k hk hS=>?_⟩ (fun k hk=>?_)
   · rw [g2.block k (by simp;omega) (fun e=>hS e.symm),Below.heap_alloc _ _ _ hk]
   · rcases g4 with g4 | g4
     · exact Or.inl (g4 ▸ hk)
     · rw [g4] at hk;simp at hk;exact Or.inr (by omega)
theorem Gi (W:World) (l:Nat) (o:Obj):Fr (fun k=>k=l) W (W.putObj l o):=⟨rfl,rfl,rfl,by simp [World.putObj],fun _ _ h=>World.putObj_heap_other h⟩
end Go.Proofs.YtfaihaoajdcjbaaGreatDoor
