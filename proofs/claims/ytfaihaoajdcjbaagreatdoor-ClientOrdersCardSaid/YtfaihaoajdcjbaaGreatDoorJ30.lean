/- The reader: a value, as it is read. -/
import Derived.Test.YtfaihaoajdcjbaaGreatDoorRdS
import Derived.Test.YtfaihaoajdcjbaaGreatDoorBase
import Derived.Test.YtfaihaoajdcjbaaGreatDoorJ14
set_option linter.all false
namespace Go.Proofs.YtfaihaoajdcjbaaGreatDoor
open Go.RowKit
structure Rp where
 f:List UInt8->Option Nat
 K:List UInt8->Prop
instance:CoeFun Rp (fun _=>List UInt8->Option Nat):=⟨Rp.f⟩
inductive Head where
 | stop (e:Nat)
 | leaf (v:V) (used:Nat)
 | list (kind n used:Nat)
def Cn (rp:Rp):List UInt8->Head
 | []=>.stop 0
 | c :: L=>
   if Ae c=0 then .stop 51 else
   match Bp L with
   | .stop e=>.stop e
   | .got (t,u)=>
     if t=[45,49]/\(Ae c=4\/Ae c=5) then .leaf (Ay 6 ⟨#[]⟩ 0 0 false) (1+u)
     else if Ae c=4\/Ae c=10\/Ae c=11 then
       match numS t 4096 with
       | none=>.stop 51
       | some n=>match Dq (L.drop u) n with
         | .stop e=>.stop e
         | .got s=>if okV (Ay (Ae c) ⟨s.toArray⟩ 0 0 false)=true then .leaf (Ay (Ae c) ⟨s.toArray⟩ 0 0 false) (1+u+(n+2)) else .stop 51
     else if Ae c=5\/Ae c=13\/Ae c=14 then
       match numS t 1000 with
       | none=>.stop 51
       | some n=>.list (Ae c) n (1+u)
     else if Ae c=12 then
       match numS t 1000 with
       | none=>.stop 51
       | some n=>.list 12 (2 * n) (1+u)
     else match Cc (rp t) (Ae c) ⟨t.toArray⟩ with
       | none=>.stop 51
       | some v=>if okV v=true then .leaf v (1+u) else .stop 51
def Bo (f:Nat->List UInt8->Out (V × Nat × Nat)):Nat->Nat->List UInt8->Out (List V × Nat × Nat)
 | 0,many,_=>.got ([],0,many)
 | n+1,many,L=>match f many L with
   | .stop e=>.stop e
   | .got (v,u,m)=>match Bo f n m (L.drop u) with
     | .stop e=>.stop e
     | .got (l,u2,m2)=>.got (v :: l,u+u2,m2)
def Aw (rp:Rp):Nat->Nat->List UInt8->Out (V × Nat × Nat)
 | 0,many,L=>match Cn rp L with
   | .stop e=>.stop e
   | .leaf v u=>.got (v,u,many)
   | .list _ _ _=>.stop 51
 | lv+1,many,L=>match Cn rp L with
   | .stop e=>.stop e
   | .leaf v u=>.got (v,u,many)
   | .list kd n u=>
     if 1000<many+n\/(kd=14/\(n=0\/lv<7)) then .stop 51
     else match Bo (Aw rp lv) n (many+n) (L.drop u) with
       | .stop e=>.stop e
       | .got (l,u2,m2)=>.got (.mk kd ⟨#[]⟩ 0 0 false l,u+u2,m2)
def F4 (rp:Rp) (L:List UInt8):Prop:=∀(c:UInt8) (L' t:List UInt8) (u:Nat),L=c :: L' -> Ae c=7->Bp L' = .got (t,u)->rp.K t
def needN (need:Nat->List UInt8->Prop) (f:Nat->List UInt8->Out (V × Nat × Nat)):Nat->Nat->List UInt8->Prop
 | 0,_,_=>True
 | n+1,m,L=>need m L/\∀(v:V) (u m' : Nat),f m L=.got (v,u,m')->needN need f n m' (L.drop u)
def A7 (rp:Rp):Nat->Nat->List UInt8->Prop
 | 0,_,L=>F4 rp L
 | lv+1,m,L=>F4 rp L/\∀(kd n u:Nat),Cn rp L=.list kd n u->needN (A7 rp lv) (Aw rp lv) n (m+n) (L.drop u)
theorem Fk {rp:Rp} {lv m:Nat} {L:List UInt8} (h:A7 rp lv m L):F4 rp L:=by
 cases lv with
 | zero=>exact h
 | succ lv=>exact h.1
structure Env (rp:Rp) (w0:World) (s:ByteArray):Prop where
 nums:Nums w0
 real:∀W,Below w0.heap.size w0 W->∀(t:List UInt8),rp.K t->Calls Tryz.prog 125 #[.string ⟨t.toArray⟩] W (RealQ (rp t) W)
structure RS (rp:Rp) (w0 w:World) (g b o n cap:Nat) (s:ByteArray) (at_ many:Nat):Prop where
 scan:Scan w g b o n cap s at_ many
 env:Env rp w0 s
 below:Below w0.heap.size w0 w
 base:w0.heap.size<=g
 le:at_<=n
theorem RS.next {rp:Rp} {w0 w w' : World} {g b o n cap at_ many at2 many2:Nat} {s:ByteArray} (h:RS rp w0 w g b o n cap s at_ many) (hf:Fr (fun k=>k=g) w w') (hs:Scan w' g b o n cap s at2 many2) (hl:at2<=n):RS rp w0 w' g b o n cap s at2 many2:=
 ⟨hs,h.env,h.below.trans (hf.below h.below.size (fun i hi e=>by have:=h.base;omega)),h.base,hl⟩
theorem Ah {w w' : World} {g:Nat} (h:Below w.heap.size w w'):Fr (fun k=>k=g) w w' := (Fr.of_below h).mono (fun i hi h=>absurd hi (Nat.not_lt_of_le h))
theorem RS.grow {rp:Rp} {w0 w w' : World} {g b o n cap at_ many:Nat} {s:ByteArray} (h:RS rp w0 w g b o n cap s at_ many) (hb:Below w.heap.size w w'):RS rp w0 w' g b o n cap s at_ many:=by
 have hblt:g<w.heap.size:=h.scan.blk.lt;refine h.next (Ah hb) ⟨?_,?_,?_,?_,?_,h.scan.size,h.scan.ne,h.scan.room,h.scan.big⟩ h.le
 · rw [hb.cell (World.block_lt_of_cell? _ _ h.scan.c0)];exact h.scan.c0
 · rw [hb.cell (World.block_lt_of_cell? _ _ h.scan.c1)];exact h.scan.c1
 · rw [hb.cell (World.block_lt_of_cell? _ _ h.scan.c2)];exact h.scan.c2
 · exact h.scan.blk.of_block (hb.block _ hblt)
 · exact A3 h.scan.bytes hb
theorem RS.nums {rp:Rp} {w0 w:World} {g b o n cap at_ many:Nat} {s:ByteArray} (h:RS rp w0 w g b o n cap s at_ many):Nums w:=h.env.nums.below h.below
def ValQ (rp:Rp) (w0:World) (g b o n cap:Nat) (s:ByteArray) (at_:Nat) (out:Out (V × Nat × Nat)) (w:World) (e:Ending) (w' : World):Prop:=
 match out with
 | .stop q=>e=Bf q/\Fr (fun k=>k=g) w w'
 | .got (v,u,m)=>∃(a:Option Addr) (ca:Nat),e=.returned (.agg #[.int .i64 v.kind,.string v.text,.int .i64 v.int,.float .f64 v.real,.bool v.flag,.slice a v.list.length ca]) /\
     RV (Aq w.heap.size w') (Aj v.kind v.text v.int v.real v.flag a v.list.length ca) v/\Fr (fun k=>k=g) w w' /\ RS rp w0 w' g b o n cap s (at_+u) m
end Go.Proofs.YtfaihaoajdcjbaaGreatDoor
namespace Go.Proofs.YtfaihaoajdcjbaaGreatDoor
open Go Go.RowKit
theorem Had.val {l:List Oper} {G:Nat->Value->World->Prop} {k:Nat} {a:Act} {w:World} (h:Had l G k a w) {o:Oper} {d:Tmp} (ho:l[k]?=some o) (hd:o.dst=some d):∃v,G k v w/\a.eval (.tmp d)=v:=
 let ⟨v,h1,h2⟩:=h;⟨v,h1,h2 o d ho hd⟩
theorem Ac {a:Act} {t:Tmp} {v:Value} (h:a.eval (.tmp t)=v):a.tmps[t]?.getD undef=v:=by
 rw [<-h];simp [Act.eval]
section
variable {P:Program} {o:Oper} {a:Act} {w:World} {R:Value->World->Prop}
theorem A0 {ty:TypeId} {x:Operand} (ho:o.op=.load ty x) {b off:Nat} (hx:a.eval x=.pointer (some ⟨b,off,none⟩)) {cs:List Value} {d:TypeDesc} (hc:w.rangeAt b off cs) (hu:P.underlying ty=some d) (hd:d.isRow=true)
   (hi:(P.info? ty).map (·.size)=some cs.length) (h:R (.agg cs.toArray) w):Bz P o a w R:=by
 refine gives_value (u:=.agg cs.toArray) (w' := w) ?_ h;unfold execOp;simp only [ho,hx,Instr.loadAt,Instr.sureAddr,Sem.run_bind,Sem.run_pure,Result.andThen_ok,run_loadVar_mid w b off ty cs d hc hu hd hi]
theorem C4 {ty:TypeId} {x y:Operand} (ho:o.op=.store ty x y) {b off:Nat} {cells:Array Value} (hx:a.eval x=.pointer (some ⟨b,off,none⟩)) (hy:a.eval y=.agg cells) (ht:w.there b off cells.size) (hi:(P.info? ty).map (·.size)=some cells.size)
   (h1:cells.all (·.oneCell')=true) (h:R undef (w.setCells b off cells.toList)):Bz P o a w R:=by
 refine gives_skip (w' := w.setCells b off cells.toList) ?_ h;unfold execOp;simp only [ho,hx,hy,Instr.storeAt,Instr.sureAddr,Sem.run_bind,Sem.run_pure,Result.andThen_ok,run_storeVar_mid w b off ty cells ht hi h1]
theorem gives_append {s x:Operand} {t e base size bytes n m cx:Nat} {ax:Option Addr} {v:Value} {xs news:List Value}
   (ho:o.op=.call { callee:=.builtin .append,args:=#[s,x],argTypes:=#[t,t] }) (E:Elem P t e size bytes)
   (hs:a.eval s=v) (hown:w.ownsRow base e size v n xs) (hx:a.eval x=.slice ax m cx) (hr:Reads w size (.slice ax m cx) m news) (hnil:ax=none->cx=0) (h1:news.all (fun u=>u.oneCell')=true)
   (hn:n+m<1000000000) (hbase:base<=w.heap.size)
   (h:∀v' w', w'.ownsRow base e size v' (n+m) (xs++news)->Fr (fun k=>v.ownBlock=some k) w w' -> (∀k,v'.ownBlock=some k->v.ownBlock=some k\/w.heap.size<=k)->R v' w'):Bz P o a w R:=by
 obtain ⟨ht,hsz,hb,i,z,hi,hz,hi1,hi2,hz1⟩:=E;have hl:=hr.len.2;cases ax with
 | none=>
   have hm:m=0:=by
     rcases Nat.eq_zero_or_pos m with h | h
     · exact h
     · have:0<news.length:=by rw [hl];exact Nat.mul_pos h hsz
       obtain ⟨b,o', ha,_⟩:=hr.at this;cases ha
   subst hm;have:news=[]:=by simpa using hl
   subst this;rw [hnil rfl] at hx;have hrun:=run_append_owned_none (P:=P) (w:=w) base t o.type e i size ht hi v n xs hown;refine gives_value (u:=v) (w' := w) ?_ (h v w (by simpa using hown) (Fr.refl _ _) (fun k hk=>Or.inl hk));simp [execOp,ho,resolve,invoke,builtin,hs,hx,hrun,Result.andThen]
 | some ad=>
   obtain ⟨v', w', hrn,g1,g2,_,g4⟩:=run_append_own_at (P:=P) w base t o.type e i z size bytes ht hi hz hi1 hi2 hz1 hsz v n xs hown ad m cx news hl (fun j u hj=>by
     obtain ⟨b,o', ha,hc⟩:=hr.at (List.getElem?_eq_some_iff.1 hj).1;cases ha
     have:=hc j u hj;unfold Addr.add;split
     · rename_i h;rw [h] at this;simpa using this
     · exact this) (fun u hu=>List.all_eq_true.1 h1 u hu) (by unfold maxLen;omega) (by
     have:(n+m) * bytes<=1000000000 * 100000:=Nat.mul_le_mul (by omega) hb;omega) hbase
   refine gives_value (u:=v') (w' := w') ?_ (h v' w' g1 (Fr.of_grown g2) (fun k hk=>?_))
   · simp only [execOp,ho,resolve,invoke,builtin,Sem.run_bind,Sem.run_pure,Result.andThen_ok,List.map_toArray,List.map_cons,List.map_nil,hs,hx,hrn]
   · rcases g4 with g4 | g4
     · exact Or.inl (g4 ▸ hk)
     · rw [g4] at hk;simp at hk;exact Or.inr (by omega)
end
end Go.Proofs.YtfaihaoajdcjbaaGreatDoor
namespace Go.Proofs.YtfaihaoajdcjbaaGreatDoor.R2
open Go Go.RowKit
def Ge (ops:Array Oper):Bool:=(List.range ops.size).all fun i=>match ops[i]? with
 | some o=>o.after.all (fun e=>!Region.binds .any e || decide (e.on<i)) && (match o.guard with | some (g,_)=>decide (g<i) | none=>true)
 | none=>true
theorem Fc {ops:Array Oper} (h:Ge ops=true) {i:Nat} {o:Oper} (ho:ops[i]?=some o):(∀e∈o.after,Region.binds .any e=true->e.on<i)/\∀g b,o.guard=some (g,b)->g<i:=by
 have hi:=(Array.getElem?_eq_some_iff.1 ho).1;have h1:=List.all_eq_true.1 h i (List.mem_range.2 hi);simp only [ho,Bool.and_eq_true] at h1;refine ⟨fun e he hbd=>?_,fun g b hg=>?_⟩
 · have:=Array.all_eq_true'.1 h1.1 e he
   rw [hbd] at this;simpa using this
 · have:=h1.2
   rw [hg] at this;simpa using this
theorem Ev {ops:Array Oper} {listed:Array Bool} (hs:listed.size=ops.size) (hb:Ge ops=true):∀(j:Nat),j<ops.size->listed.getD j true=false->Region.ready .any ops listed≠[]:=by
 intro j;induction j using Nat.strongRecOn with
 | ind j ih=>
 intro hj hun;obtain ⟨o,ho⟩:∃o,ops[j]?=some o:=⟨ops[j],by simp [hj]⟩;by_cases hall:o.after.all (fun e=>!Region.binds .any e || listed.getD e.on false)=true
 · intro h0
   have:j∈Region.ready .any ops listed:=by
     unfold Region.ready;rw [List.mem_filter];refine ⟨List.mem_range.2 hj,?_⟩;rw [hun,ho];simpa using hall
   rw [h0] at this;cases this
 · rw [Bool.not_eq_true,Array.all_eq_false'] at hall
   obtain ⟨e,he,h1⟩:=hall;have hbd:Region.binds .any e=true:=by
     cases h:Region.binds .any e with
     | true=>rfl
     | false=>rw [h] at h1;simp at h1
   have hlt:=(Fc hb ho).1 e he hbd;have h2:listed.getD e.on false=false:=by
     cases h:listed.getD e.on false with
     | false=>rfl
     | true=>rw [h] at h1;simp at h1
   refine ih e.on hlt (by omega) ?_;have hlt' : e.on<listed.size:=by omega
   simp [hlt'] at h2 ⊢;exact h2
theorem Bq {l:Array Bool} {i:Nat} (h:i<l.size):(l.setIfInBounds i true).getD i false=true:=by simp [h]
structure RInv (l:List Oper) (C I:World->Prop) (G:Nat->Value->World->Prop) (E:Nat->Nat->Bool) (F:Nat->Bool) (a0:Act) (listed:Array Bool) (a:Act) (w:World):Prop where
 c:C w
 defers:a.defers=a0.defers
 size:a.tmps.size=a0.tmps.size
 rest:∀t,(∀k o,l[k]?=some o->o.dst=some t->listed.getD k false=false)->a.tmps.getD t undef=a0.tmps.getD t undef
 had:∀k,k<l.length->listed.getD k false=true->(∀i,E i k=true->listed.getD i false=false)->Had l G k a w
 init:(∀j,F j=true->listed.getD j false=false)->I w
 closed:∀k o,l[k]?=some o->listed.getD k false=true->∀e∈o.after,Region.binds .any e=true->listed.getD e.on false=true
def Bh (l:List Oper):Nat->Nat->Nat->Bool
 | 0,_,_=>false
 | f+1,k,i=>match l[k]? with | some o=>o.after.any (fun e=>Region.binds .any e && (decide (e.on=i) || Bh l f e.on i)) | none=>false
theorem RInv.waits {l:List Oper} {C I:World->Prop} {G:Nat->Value->World->Prop} {E:Nat->Nat->Bool} {F:Nat->Bool} {a0:Act} {listed:Array Bool} {a:Act} {w:World} (h:RInv l C I G E F a0 listed a w) {i:Nat}:∀(f k:Nat),Bh l f k i=true->listed.getD k false=true->listed.getD i false=true
 | 0,k,e,_=>by cases e
 | f+1,k,e,hk=>by
   unfold Bh at e;split at e
   · rename_i o ho
     obtain ⟨ed,he,h1⟩:=Array.any_eq_true'.1 e;simp only [Bool.and_eq_true,Bool.or_eq_true,decide_eq_true_eq] at h1;have h2:=h.closed k o ho hk ed he h1.1;rcases h1.2 with h3 | h3
     · rw [<-h3];exact h2
     · exact h.waits f ed.on h3 h2
   · cases e
structure Finds (l:List Oper) (C I:World->Prop) (G:Nat->Value->World->Prop) (E:Nat->Nat->Bool) (F:Nat->Bool) (a0:Act) (i:Nat) (o:Oper) (a:Act) (w:World):Prop where
 c:C w
 size:a.tmps.size=a0.tmps.size
 rest:∀t,(∀k o,l[k]?=some o->o.dst=some t->k=i\/Bh l 9 k i=true)->a.tmps.getD t undef=a0.tmps.getD t undef
 had:∀e∈o.after,Region.binds .any e=true->(∀j,E j e.on=true->j=i)->Had l G e.on a w
 init:(∀j,F j=true->j=i\/Bh l 9 j i=true)->I w
theorem RInv.step {l:List Oper} {C I:World->Prop} {F:Nat->Bool} {G:Nat->Value->World->Prop} {a0:Act} {listed:Array Bool} {a:Act} {w w' : World} {E:Nat->Nat->Bool} (h:RInv l C I G E F a0 listed a w) (hn:(l.filterMap (·.dst)).Nodup) (hsz:∀d∈l.filterMap (·.dst),d<a0.tmps.size)
   {i:Nat} {o:Oper} {v:Value} (hi:l[i]?=some o) (hs:listed.size=l.length) (hun:listed.getD i true=false) (hc:C w') (haf:∀e∈o.after,Region.binds .any e=true->listed.getD e.on false=true) (hst:∀k u,k≠i->exB l E i k=false->G k u w->G k u w') (hin:F i=false->I w->I w') (hv:G i v w'):RInv l C I G E F a0 (listed.setIfInBounds i true) (a.put o.dst v) w' := by
 refine ⟨hc,Fi.trans h.defers,D5.trans h.size,fun t ht=>?_,fun k hk hl he=>?_,fun hj=>?_,fun k ok hok hl e he hb=>?_⟩
 · have hil:i<listed.size:=by rw [hs];exact (List.getElem?_eq_some_iff.1 hi).1
   rw [Bx (fun e=>by
     have:=ht i o hi e;rw [Bq hil] at this;cases this)]
   refine h.rest t fun k ok hk hd=>?_;have:=ht k ok hk hd;by_cases hki:i=k
   · subst hki;rw [Bq hil] at this;cases this
   · rw [getD_set_ne false hki] at this;exact this
 · by_cases hki:k=i
   · subst hki
     refine ⟨v,hv,fun o' d ho hd=>?_⟩;rw [hi] at ho;cases ho;rw [hd,Ch];rw [h.size];exact hsz d (List.mem_filterMap.2 ⟨o,List.mem_of_getElem? hi,hd⟩)
   · have hl' : listed.getD k false=true:=by rw [<-hl];simp [Array.getElem?_setIfInBounds_ne (Ne.symm hki)]
     have hil:i<listed.size:=by rw [hs];exact (List.getElem?_eq_some_iff.1 hi).1
     have hik:E i k=false:=by
       cases hh:E i k with
       | false=>rfl
       | true=>have:=he i hh;simp [hil] at this
     have hex:exB l E i k=false:=by
       unfold exB;rw [hik,hi,Bool.false_or,Bool.or_eq_false_iff];refine ⟨?_,?_⟩
       · dsimp only
         rw [Array.any_eq_false'];intro e hem h1;simp only [Bool.and_eq_true] at h1;have h2:=he e.on h1.2;rw [getD_set_true (haf e hem h1.1)] at h2;cases h2
       · unfold waitsB
         split
         · rename_i ok hok
           rw [Array.any_eq_false'];intro e hem h1;simp only [Bool.and_eq_true,decide_eq_true_eq] at h1;have h2:=h.closed k ok hok hl' e hem h1.1;rw [h1.2] at h2;simp [hil] at h2 hun;rw [h2] at hun;cases hun
         · rfl
     obtain ⟨u,hu,hd⟩:=h.had k hk hl' (fun j hj=>by
       have h1:=he j hj;by_cases hji:i=j
       · subst hji;rw [hik] at hj;cases hj
       · rw [getD_set_ne false hji] at h1;exact h1)
     refine ⟨u,hst k u hki hex hu,fun o' d ho hd' => ?_⟩;rw [Bx (fun e=>dst_ne hn hi ho (Ne.symm hki) e hd' rfl)];exact hd o' d ho hd'
 · have hil:i<listed.size:=by rw [hs];exact (List.getElem?_eq_some_iff.1 hi).1
   have hF:F i=false:=by
     cases hh:F i with
     | false=>rfl
     | true=>have:=hj i hh;simp [hil] at this
   refine hin hF (h.init fun j hjF=>?_);by_cases hji:i=j
   · subst hji;rw [hF] at hjF;cases hjF
   · have:=hj j hjF;rw [getD_set_ne false hji] at this;exact this
 · by_cases hki:k=i
   · subst hki
     rw [hi] at hok;cases hok;exact getD_set_true (haf e he hb)
   · rw [getD_set_ne false (Ne.symm hki)] at hl
     exact getD_set_true (h.closed k ok hok hl e he hb)
theorem wpAny_rely {P:Program} {l:List Oper} {C I:World->Prop} {F:Nat->Bool} {R:Nat->World->World->Prop} {G:Nat->Value->World->Prop} {E:Nat->Nat->Bool} {a0:Act} {Q:Exit->Act->World->Prop} (hb:Ge l.toArray=true) (hn:(l.filterMap (·.dst)).Nodup) (hsz:∀d∈l.filterMap (·.dst),d<a0.tmps.size)
   (hst:∀i k u w w', k≠i->exB l E i k=false->G k u w->R i w w' -> G k u w') (hin:∀i w w', F i=false->I w->R i w w' -> I w')
   (hvc:∀i o,l[i]?=some o->∀a w,Finds l C I G E F a0 i o a w->if Region.wanted o (yielded l.toArray a.tmps) then Bz P o a w (fun v w' => C w' /\ R i w w' /\ G i v w') else G i undef w)
   (hQ:∀listed a w,RInv l C I G E F a0 listed a w->(∀k,k<l.length->(∀i,i<l.length->E i k=false)->Had l G k a w)->Q .normal a w):∀(fuel:Nat) (listed:Array Bool) (a:Act) (w:World),listed.size=l.length->listed.toList.count false=fuel->RInv l C I G E F a0 listed a w ->
   wpAny P .any l.toArray Q fuel listed a w:=by
 have hs' : l.toArray.size=l.length:=by simp
 intro fuel;induction fuel with
 | zero=>
   intro listed a w hs hc h;have hall:∀j,j<l.length->listed.getD j true=true:=fun j hj=>by
     cases hh:listed.getD j true with
     | true=>rfl
     | false=>
       have hlt:j<listed.size:=by omega
       have:false∈listed.toList:=by
         have e:listed[j]=false:=by simpa [hlt] using hh
         rw [<-e];exact Array.getElem_mem_toList hlt
       have:=List.count_pos_iff.2 this;omega
   refine ⟨?_,hQ listed a w h (fun k hk he=>h.had k hk ?_ (fun i hi=>?_))⟩
   · unfold Region.ready
     rw [List.filter_eq_nil_iff];intro i hi;have hi:=List.mem_range.1 hi;rw [hall i (by simpa using hi)];simp
   · have:=hall k hk
     have hlt:k<listed.size:=by omega
     simp [hlt] at this ⊢;exact this
   · by_cases hlt:i<l.length
     · rw [he i hlt] at hi;cases hi
     · have:listed.size<=i:=by omega
       simp [Array.getElem?_eq_none this]
 | succ fuel ih=>
   intro listed a w hs hc h;obtain ⟨j,hj,hun⟩:∃j,j<l.length/\listed.getD j true=false:=by
     have:false∈listed.toList:=List.count_pos_iff.1 (by omega);obtain ⟨j,hj,he⟩:=List.getElem_of_mem this;have hj' : j<listed.size:=by simpa using hj
     exact ⟨j,by omega,by simp [hj'];simpa using he⟩
   have hne:=Ev (ops:=l.toArray) (by omega) hb j (by omega) hun;refine ⟨fun h0=>absurd h0 hne,fun i hi=>?_⟩;obtain ⟨hli,o,ho,hafter⟩:=mem_ready.1 hi;have ho' : l[i]?=some o:=by simpa using ho
   have hil:=(List.getElem?_eq_some_iff.1 ho').1;have hlt:i<listed.size:=by omega
   have hget:listed.toList[i]?=some false:=by
     have e:listed[i]=false:=by simpa [hlt] using hli
     simp [hlt,e]
   have hset:(listed.setIfInBounds i true).size=l.length:=by simpa using hs
   have hcnt:(listed.setIfInBounds i true).toList.count false=fuel:=by
     have:=Ef listed.toList i hget;simp only [Array.toList_setIfInBounds];omega
   have hui:listed.getD i false=false:=by simp [hlt] at hli ⊢;exact hli
   have hno:∀k,k=i\/Bh l 9 k i=true->listed.getD k false=false:=fun k hk=>by
     rcases hk with e | e
     · subst e;exact hui
     · cases hh:listed.getD k false with
       | false=>rfl
       | true=>have:=h.waits 9 k e hh;rw [hui] at this;cases this
   have hv:=hvc i o ho' a w ⟨h.c,h.size,fun t ht=>h.rest t fun k ok hk hd=>hno k (ht k ok hk hd),fun e he hbd hE=>h.had e.on (by have:=(Fc hb ho).1 e he hbd;omega) (hafter e he hbd) (fun j hj=>by
     have:=hE j hj;subst this;exact hui),fun hF=>h.init fun j hj=>hno j (hF j hj)⟩
   unfold wpOp;rw [ho];dsimp only;split
   · rename_i hw
     rw [if_pos hw] at hv;exact .inl (wp_of_gives hv fun v w' ⟨h1,h2,h3⟩=>ih _ _ _ hset hcnt (h.step hn hsz ho' hs hli h1 hafter (fun k u hk hek hu=>hst i k u w w' hk hek hu h2) (fun hf hi=>hin i w w' hf hi h2) h3))
   · rename_i hw
     rw [if_neg hw] at hv;exact ih _ _ _ hset hcnt (h.step hn hsz ho' hs hli h.c hafter (fun k u _ _ hu=>hu) (fun _ hi=>hi) hv)
def Al:List Oper->Nat->(Nat->Value)->Act->Act
 | [],_,_,a=>a
 | o :: l,k,vs,a=>Al l (k+1) vs (a.put o.dst (vs k))
theorem Cz:∀(l:List Oper) (k:Nat) (vs:Nat->Value) (a:Act),(Al l k vs a).tmps.size=a.tmps.size
 | [],_,_,_=>rfl
 | o :: l,k,vs,a=>by rw [Al,Cz l];exact D5
theorem B9:∀(l:List Oper) (k:Nat) (vs:Nat->Value) (a:Act),(Al l k vs a).defers=a.defers
 | [],_,_,_=>rfl
 | o :: l,k,vs,a=>by rw [Al,B9 l];exact Fi
theorem B0:∀(l:List Oper) (k:Nat) (vs:Nat->Value) (a:Act) (t:Nat),(∀o∈l,o.dst≠some t)->(Al l k vs a).tmps.getD t undef=a.tmps.getD t undef
 | [],_,_,_,_,_=>rfl
 | o :: l,k,vs,a,t,h=>by
   rw [Al,B0 l _ _ _ t (fun o' ho' => h o' (List.mem_cons_of_mem _ ho'))];exact Bx (h o (by simp))
theorem D1:∀(l:List Oper) (k:Nat) (vs:Nat->Value) (a:Act),(l.filterMap (·.dst)).Nodup->(∀d∈l.filterMap (·.dst),d<a.tmps.size)->∀(i:Nat) (o:Oper) (d:Tmp),l[i]?=some o->o.dst=some d->(Al l k vs a).tmps.getD d undef=vs (k+i)
 | [],_,_,_,_,_,i,_,_,hi,_=>by simp at hi
 | o :: l,k,vs,a,hn,hsz,i,o', d,hi,hd=>by
   have hn' : (l.filterMap (·.dst)).Nodup:=by
     cases h:o.dst with
     | none=>rw [List.filterMap_cons_none h] at hn;exact hn
     | some x=>rw [List.filterMap_cons_some h] at hn;exact (List.nodup_cons.1 hn).2
   have hsz' : ∀d∈l.filterMap (·.dst),d<(a.put o.dst (vs k)).tmps.size:=fun d hd=>by
     rw [D5];obtain ⟨x,hx,hxd⟩:=List.mem_filterMap.1 hd;exact hsz d (List.mem_filterMap.2 ⟨x,List.mem_cons_of_mem _ hx,hxd⟩)
   rw [Al];rcases i with _ | i
   · simp at hi;subst hi
     rw [B0,hd,Ch];· rfl
     · exact hsz d (List.mem_filterMap.2 ⟨o,by simp,hd⟩)
     · intro o' ho' e
       rw [List.filterMap_cons_some hd] at hn;exact (List.nodup_cons.1 hn).1 (List.mem_filterMap.2 ⟨o', ho', e⟩)
   · rw [D1 l (k+1) vs _ hn' hsz' i o' d (by simpa using hi) hd]
     congr 1;omega
theorem rely_frame {l:List Oper} {C I:World->Prop} {F:Nat->Bool} {G:Nat->Value->World->Prop} {E:Nat->Nat->Bool} {a0:Act} {listed:Array Bool} {a:Act} {w:World} (hn:(l.filterMap (·.dst)).Nodup) (hsz:∀d∈l.filterMap (·.dst),d<a0.tmps.size) (h:RInv l C I G E F a0 listed a w)
   (hall:∀k,k<l.length->(∀i,i<l.length->E i k=false)->Had l G k a w):∃vs:Nat->Value,a=Al l 0 vs a0/\∀k,k<l.length->(∀i,i<l.length->E i k=false)->G k (vs k) w:=by
 have key:∃vs:Nat->Value,∀k,k<l.length->((∀i,i<l.length->E i k=false)->G k (vs k) w)/\∀o d,l[k]?=some o->o.dst=some d->a.tmps.getD d undef=vs k:=by
   have pt:∀k,∃v,k<l.length->((∀i,i<l.length->E i k=false)->G k v w)/\∀o d,l[k]?=some o->o.dst=some d->a.tmps.getD d undef=v:=by
     intro k;by_cases hk:k<l.length
     · by_cases he:∀i,i<l.length->E i k=false
       · obtain ⟨v,h1,h2⟩:=hall k hk he
         exact ⟨v,fun _=>⟨fun _=>h1,h2⟩⟩
       · cases hd:(l[k]).dst with
         | none=>exact ⟨undef,fun _=>⟨fun h=>absurd h he,fun o d ho hdd=>by rw [List.getElem?_eq_getElem hk] at ho;cases ho;rw [hd] at hdd;cases hdd⟩⟩
         | some d=>exact ⟨a.tmps.getD d undef,fun _=>⟨fun h=>absurd h he,fun o d' ho hdd=>by rw [List.getElem?_eq_getElem hk] at ho;cases ho;rw [hd] at hdd;cases hdd;rfl⟩⟩
     · exact ⟨undef,fun h=>absurd h hk⟩
   exact ⟨fun k=>Classical.choose (pt k),fun k hk=>Classical.choose_spec (pt k) hk⟩
 obtain ⟨vs,hvs⟩:=key;refine ⟨vs,?_,fun k hk he=>(hvs k hk).1 he⟩;have e1:a.tmps=(Al l 0 vs a0).tmps:=by
   apply Array.ext
   · rw [h.size,Cz]
   · intro t h1 h2
     have g1:a.tmps[t]=a.tmps.getD t undef:=by simp [h1]
     have g2:(Al l 0 vs a0).tmps[t]=(Al l 0 vs a0).tmps.getD t undef:=by simp [h2]
     rw [g1,g2];by_cases hx:∃(k:Nat) (o:Oper),l[k]?=some o/\o.dst=some t
     · obtain ⟨k,o,ho,hdt⟩:=hx
       rw [(hvs k (List.getElem?_eq_some_iff.1 ho).1).2 o t ho hdt,D1 l 0 vs a0 hn hsz k o t ho hdt,Nat.zero_add]
     · have hno:∀o∈l,o.dst≠some t:=fun o hom e=>by
         obtain ⟨k,hk,rfl⟩:=List.getElem_of_mem hom;exact hx ⟨k,l[k],by simp [hk],e⟩
       rw [h.rest t (fun k o ho hd=>absurd hd (hno o (List.mem_of_getElem? ho))),B0 l 0 vs a0 t hno]
 have e2:=h.defers;have e3:=B9 l 0 vs a0;cases a;cases hp:Al l 0 vs a0
 rw [hp] at e1 e3;simp only at e1 e2 e3;subst e1;simp only [Act.mk.injEq,true_and];rw [e2,e3]
def VC (P:Program) (l:List Oper) (C I:World->Prop) (R:Nat->World->World->Prop) (G:Nat->Value->World->Prop) (E:Nat->Nat->Bool) (F:Nat->Bool) (a0:Act) (i:Nat) (o:Oper):Prop:=
 ∀a w,Finds l C I G E F a0 i o a w->if Region.wanted o (yielded l.toArray a.tmps) then Bz P o a w (fun v w' => C w' /\ R i w w' /\ G i v w') else G i undef w
def VCs (P:Program) (l:List Oper) (C I:World->Prop) (R:Nat->World->World->Prop) (G:Nat->Value->World->Prop) (E:Nat->Nat->Bool) (F:Nat->Bool) (a0:Act):List Oper->Nat->Prop
 | [],_=>True
 | o :: r,i=>VC P l C I R G E F a0 i o/\VCs P l C I R G E F a0 r (i+1)
theorem VCs.at {P:Program} {l:List Oper} {C I:World->Prop} {F:Nat->Bool} {R:Nat->World->World->Prop} {G:Nat->Value->World->Prop} {E:Nat->Nat->Bool} {a0:Act}:∀{r:List Oper} {j:Nat},VCs P l C I R G E F a0 r j->∀(i:Nat) (o:Oper),r[i]?=some o->VC P l C I R G E F a0 (j+i) o
 | [],_,_,i,o,h=>by simp at h
 | o' :: r,j,h,i,o,ho=>by
   rcases i with _ | i
   · simp at ho;subst ho;exact h.1
   · have:=h.2.at i o (by simpa using ho)
     rw [show j+(i+1)=j+1+i by omega];exact this
theorem VC.plain {P:Program} {l:List Oper} {C I:World->Prop} {F:Nat->Bool} {R:Nat->World->World->Prop} {G:Nat->Value->World->Prop} {E:Nat->Nat->Bool} {a0:Act} {i:Nat} {o:Oper} (hg:o.guard=none) (h:∀a w,Finds l C I G E F a0 i o a w->Bz P o a w (fun v w' => C w' /\ R i w w' /\ G i v w')):VC P l C I R G E F a0 i o:=fun a w hf=>by
 rw [if_pos (by unfold Region.wanted;rw [hg])];exact h a w hf
theorem wp_region_rely {P:Program} {id:Nat} {l:List Oper} {Q:Exit->Act->World->Prop} {a0:Act} {w:World} (C I:World->Prop) (R:Nat->World->World->Prop) (G:Nat->Value->World->Prop) (E:Nat->Nat->Bool) (F:Nat->Bool) (hm:P.follows .mixedOrders=true) (hb:Ge l.toArray=true) (hd:dstsB l a0.tmps.size=true)
   (hC:C w.drew) (hI:I w.drew) (hst:∀i k u w w', k≠i->exB l E i k=false->G k u w->R i w w' -> G k u w') (hin:∀i w w', F i=false->I w->R i w w' -> I w') (hvc:VCs P l C I R G E F a0 l 0)
   (hQ:∀(vs:Nat->Value) w,C w->(∀k,k<l.length->(∀i,i<l.length->E i k=false)->G k (vs k) w)->Q .normal (Al l 0 vs a0) w):(Code.region id l.toArray true).wp P Q a0 w:=by
 simp only [dstsB,Bool.and_eq_true,decide_eq_true_eq] at hd;have hsz:∀d∈l.filterMap (·.dst),d<a0.tmps.size:=fun d hdm=>by simpa using List.all_eq_true.1 hd.1 d hdm
 refine wp_region_any hm ?_
 have:=wpAny_rely (P:=P) (l:=l) (C:=C) (I:=I) (F:=F) (R:=R) (G:=G) (E:=E) (a0:=a0) (Q:=Q) hb hd.2 hsz hst hin (fun i o ho=>by have:=hvc.at i o ho;rw [Nat.zero_add] at this;exact this) (fun listed a w h hall=>?_) l.length (Array.replicate l.length false) a0 w.drew (by simp) (by simp)
   ⟨hC,rfl,rfl,fun _ _=>rfl,fun k hk h=>by simp [hk] at h,fun _=>hI,fun k o ho h=>by have:=(List.getElem?_eq_some_iff.1 ho).1;simp [this] at h⟩
 · simpa using this
 · obtain ⟨vs,e,hG⟩:=rely_frame hd.2 hsz h hall
   rw [e];exact hQ vs w h.c hG
theorem Finds.old {l:List Oper} {C I:World->Prop} {F:Nat->Bool} {G:Nat->Value->World->Prop} {E:Nat->Nat->Bool} {a0:Act} {i:Nat} {o:Oper} {a:Act} {w:World} (h:Finds l C I G E F a0 i o a w) (t:Nat) (hl:(List.range l.length).all (fun k=>match l[k]? with | some o=>!(o.dst == some t) || decide (k=i) || Bh l 9 k i | none=>true)=true):a.eval (.tmp t)=a0.tmps.getD t undef:=
 h.rest t fun k o ho e=>by
   have:=List.all_eq_true.1 hl k (List.mem_range.2 (List.getElem?_eq_some_iff.1 ho).1);rw [ho] at this;simpa [e] using this
theorem Finds.start {l:List Oper} {C I:World->Prop} {ps:List Nat} {G:Nat->Value->World->Prop} {E:Nat->Nat->Bool} {a0:Act} {i:Nat} {o:Oper} {a:Act} {w:World} (h:Finds l C I G E (isIn ps) a0 i o a w) (hb:ps.all (fun j=>decide (j=i) || Bh l 9 j i)=true):I w:=
 h.init fun j hj=>by
   have:=List.all_eq_true.1 hb j (by simpa [isIn] using hj);simpa using this
theorem Finds.got {l:List Oper} {C I:World->Prop} {F:Nat->Bool} {G:Nat->Value->World->Prop} {E:Nat->Nat->Bool} {a0:Act} {i:Nat} {o:Oper} {a:Act} {w:World} (h:Finds l C I G E F a0 i o a w) (k:Nat) {ok:Oper} {d:Tmp}
   (hk:o.after.any (fun e=>decide (e.on=k) && Region.binds .any e)=true) (hE:∀j,E j k=true->j=i) (hok:l[k]?=some ok) (hd:ok.dst=some d):∃v,G k v w/\a.eval (.tmp d)=v:=by
 obtain ⟨e,he,h1⟩:=Array.any_eq_true'.1 hk;simp only [Bool.and_eq_true,decide_eq_true_eq] at h1;obtain ⟨h1,h2⟩:=h1;subst h1;exact (h.had e he h2 hE).val hok hd
end Go.Proofs.YtfaihaoajdcjbaaGreatDoor.R2
