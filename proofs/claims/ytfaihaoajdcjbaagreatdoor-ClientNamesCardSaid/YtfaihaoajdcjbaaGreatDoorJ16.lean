/- The reader: a value, as it is read. -/
import Derived.Test.YtfaihaoajdcjbaaGreatDoorRdS
import Derived.Test.YtfaihaoajdcjbaaGreatDoorBase
import Derived.Test.YtfaihaoajdcjbaaGreatDoorJ14
set_option linter.all false
namespace Go.Proofs.YtfaihaoajdcjbaaGreatDoor
open Go.RowKit
structure Rp where
 f:List UInt8->Option Nat
 K:List UInt8->Prop
instance:CoeFun Rp (fun _=>List UInt8->Option Nat):=⟨Rp.f⟩
inductive Head where
 | stop (e:Nat)
 | leaf (v:V) (used:Nat)
 | list (kind n used:Nat)
def Cg (rp:Rp):List UInt8->Head
 | []=>.stop 0
 | c :: L=>
   if Ae c=0 then .stop 51 else
   match Bn L with
   | .stop e=>.stop e
   | .got (t,u)=>
     if t=[45,49]/\(Ae c=4\/Ae c=5) then .leaf (Ay 6 ⟨#[]⟩ 0 0 false) (1+u)
     else if Ae c=4\/Ae c=10\/Ae c=11 then
       match numS t 4096 with
       | none=>.stop 51
       | some n=>match Dj (L.drop u) n with
         | .stop e=>.stop e
         | .got s=>if okV (Ay (Ae c) ⟨s.toArray⟩ 0 0 false)=true then .leaf (Ay (Ae c) ⟨s.toArray⟩ 0 0 false) (1+u+(n+2)) else .stop 51
     else if Ae c=5\/Ae c=13\/Ae c=14 then
       match numS t 1000 with
       | none=>.stop 51
       | some n=>.list (Ae c) n (1+u)
     else if Ae c=12 then
       match numS t 1000 with
       | none=>.stop 51
       | some n=>.list 12 (2 * n) (1+u)
     else match Cc (rp t) (Ae c) ⟨t.toArray⟩ with
       | none=>.stop 51
       | some v=>if okV v=true then .leaf v (1+u) else .stop 51
def Bo (f:Nat->List UInt8->Out (V × Nat × Nat)):Nat->Nat->List UInt8->Out (List V × Nat × Nat)
 | 0,many,_=>.got ([],0,many)
 | n+1,many,L=>match f many L with
   | .stop e=>.stop e
   | .got (v,u,m)=>match Bo f n m (L.drop u) with
     | .stop e=>.stop e
     | .got (l,u2,m2)=>.got (v :: l,u+u2,m2)
def Aw (rp:Rp):Nat->Nat->List UInt8->Out (V × Nat × Nat)
 | 0,many,L=>match Cg rp L with
   | .stop e=>.stop e
   | .leaf v u=>.got (v,u,many)
   | .list _ _ _=>.stop 51
 | lv+1,many,L=>match Cg rp L with
   | .stop e=>.stop e
   | .leaf v u=>.got (v,u,many)
   | .list kd n u=>
     if 1000<many+n\/(kd=14/\(n=0\/lv<7)) then .stop 51
     else match Bo (Aw rp lv) n (many+n) (L.drop u) with
       | .stop e=>.stop e
       | .got (l,u2,m2)=>.got (.mk kd ⟨#[]⟩ 0 0 false l,u+u2,m2)
def Ga (rp:Rp) (L:List UInt8):Prop:=∀(c:UInt8) (L' t:List UInt8) (u:Nat),L=c :: L' -> Ae c=7->Bn L' = .got (t,u)->rp.K t
def needN (need:Nat->List UInt8->Prop) (f:Nat->List UInt8->Out (V × Nat × Nat)):Nat->Nat->List UInt8->Prop
 | 0,_,_=>True
 | n+1,m,L=>need m L/\∀(v:V) (u m' : Nat),f m L=.got (v,u,m')->needN need f n m' (L.drop u)
def A9 (rp:Rp):Nat->Nat->List UInt8->Prop
 | 0,_,L=>Ga rp L
 | lv+1,m,L=>Ga rp L/\∀(kd n u:Nat),Cg rp L=.list kd n u->needN (A9 rp lv) (Aw rp lv) n (m+n) (L.drop u)
theorem E7 {rp:Rp} {lv m:Nat} {L:List UInt8} (h:A9 rp lv m L):Ga rp L:=by
 cases lv with
 | zero=>exact h
 | succ lv=>exact h.1
structure Env (rp:Rp) (w0:World) (s:ByteArray):Prop where
 nums:Nums w0
 real:∀W,Below w0.heap.size w0 W->∀(t:List UInt8),rp.K t->Calls Tryz.prog 125 #[.string ⟨t.toArray⟩] W (RealQ (rp t) W)
structure RS (rp:Rp) (w0 w:World) (g b o n cap:Nat) (s:ByteArray) (at_ many:Nat):Prop where
 scan:Scan w g b o n cap s at_ many
 env:Env rp w0 s
 below:Below w0.heap.size w0 w
 base:w0.heap.size<=g
 le:at_<=n
theorem RS.next {rp:Rp} {w0 w w' : World} {g b o n cap at_ many at2 many2:Nat} {s:ByteArray} (h:RS rp w0 w g b o n cap s at_ many) (hf:Fr (fun k=>k=g) w w') (hs:Scan w' g b o n cap s at2 many2) (hl:at2<=n):RS rp w0 w' g b o n cap s at2 many2:=
 ⟨hs,h.env,h.below.trans (hf.below h.below.size (fun i hi e=>by have:=h.base;omega)),h.base,hl⟩
theorem Ah {w w' : World} {g:Nat} (h:Below w.heap.size w w'):Fr (fun k=>k=g) w w' := (Fr.of_below h).mono (fun i hi h=>absurd hi (Nat.not_lt_of_le h))
theorem RS.grow {rp:Rp} {w0 w w' : World} {g b o n cap at_ many:Nat} {s:ByteArray} (h:RS rp w0 w g b o n cap s at_ many) (hb:Below w.heap.size w w'):RS rp w0 w' g b o n cap s at_ many:=by
 have hblt:g<w.heap.size:=h.scan.blk.lt;refine h.next (Ah hb) ⟨?_,?_,?_,?_,?_,h.scan.size,h.scan.ne,h.scan.room,h.scan.big⟩ h.le
 · rw [hb.cell (World.block_lt_of_cell? _ _ h.scan.c0)];exact h.scan.c0
 · rw [hb.cell (World.block_lt_of_cell? _ _ h.scan.c1)];exact h.scan.c1
 · rw [hb.cell (World.block_lt_of_cell? _ _ h.scan.c2)];exact h.scan.c2
 · exact h.scan.blk.of_block (hb.block _ hblt)
 · exact A2 h.scan.bytes hb
theorem RS.nums {rp:Rp} {w0 w:World} {g b o n cap at_ many:Nat} {s:ByteArray} (h:RS rp w0 w g b o n cap s at_ many):Nums w:=h.env.nums.below h.below
def ValQ (rp:Rp) (w0:World) (g b o n cap:Nat) (s:ByteArray) (at_:Nat) (out:Out (V × Nat × Nat)) (w:World) (e:Ending) (w' : World):Prop:=
 match out with
 | .stop q=>e=Bf q/\Fr (fun k=>k=g) w w'
 | .got (v,u,m)=>∃(a:Option Addr) (ca:Nat),e=.returned (.agg #[.int .i64 v.kind,.string v.text,.int .i64 v.int,.float .f64 v.real,.bool v.flag,.slice a v.list.length ca]) /\
     RV (Ar w.heap.size w') (Aj v.kind v.text v.int v.real v.flag a v.list.length ca) v/\Fr (fun k=>k=g) w w' /\ RS rp w0 w' g b o n cap s (at_+u) m
end Go.Proofs.YtfaihaoajdcjbaaGreatDoor
namespace Go.Proofs.YtfaihaoajdcjbaaGreatDoor
open Go Go.RowKit
theorem Had.val {l:List Oper} {G:Nat->Value->World->Prop} {k:Nat} {a:Act} {w:World} (h:Had l G k a w) {o:Oper} {d:Tmp} (ho:l[k]?=some o) (hd:o.dst=some d):∃v,G k v w/\a.eval (.tmp d)=v:=
 let ⟨v,h1,h2⟩:=h;⟨v,h1,h2 o d ho hd⟩
theorem Ac {a:Act} {t:Tmp} {v:Value} (h:a.eval (.tmp t)=v):a.tmps[t]?.getD undef=v:=by
 rw [<-h];simp [Act.eval]
section
variable {P:Program} {o:Oper} {a:Act} {w:World} {R:Value->World->Prop}
theorem A0 {ty:TypeId} {x:Operand} (ho:o.op=.load ty x) {b off:Nat} (hx:a.eval x=.pointer (some ⟨b,off,none⟩)) {cs:List Value} {d:TypeDesc} (hc:w.rangeAt b off cs) (hu:P.underlying ty=some d) (hd:d.isRow=true)
   (hi:(P.info? ty).map (·.size)=some cs.length) (h:R (.agg cs.toArray) w):Bx P o a w R:=by
 refine gives_value (u:=.agg cs.toArray) (w' := w) ?_ h;unfold execOp;simp only [ho,hx,Instr.loadAt,Instr.sureAddr,Sem.run_bind,Sem.run_pure,Result.andThen_ok,run_loadVar_mid w b off ty cs d hc hu hd hi]
theorem Cy {ty:TypeId} {x y:Operand} (ho:o.op=.store ty x y) {b off:Nat} {cells:Array Value} (hx:a.eval x=.pointer (some ⟨b,off,none⟩)) (hy:a.eval y=.agg cells) (ht:w.there b off cells.size) (hi:(P.info? ty).map (·.size)=some cells.size)
   (h1:cells.all (·.oneCell')=true) (h:R undef (w.setCells b off cells.toList)):Bx P o a w R:=by
 refine gives_skip (w' := w.setCells b off cells.toList) ?_ h;unfold execOp;simp only [ho,hx,hy,Instr.storeAt,Instr.sureAddr,Sem.run_bind,Sem.run_pure,Result.andThen_ok,run_storeVar_mid w b off ty cells ht hi h1]
theorem gives_append {s x:Operand} {t e base size bytes n m cx:Nat} {ax:Option Addr} {v:Value} {xs news:List Value}
   (ho:o.op=.call { callee:=.builtin .append,args:=#[s,x],argTypes:=#[t,t] }) (E:Elem P t e size bytes)
   (hs:a.eval s=v) (hown:w.ownsRow base e size v n xs) (hx:a.eval x=.slice ax m cx) (hr:Reads w size (.slice ax m cx) m news) (hnil:ax=none->cx=0) (h1:news.all (fun u=>u.oneCell')=true)
   (hn:n+m<1000000000) (hbase:base<=w.heap.size)
   (h:∀v' w', w'.ownsRow base e size v' (n+m) (xs++news)->Fr (fun k=>v.ownBlock=some k) w w' -> (∀k,v'.ownBlock=some k->v.ownBlock=some k\/w.heap.size<=k)->R v' w'):Bx P o a w R:=by
 obtain ⟨ht,hsz,hb,i,z,hi,hz,hi1,hi2,hz1⟩:=E;have hl:=hr.len.2;cases ax with
 | none=>
   have hm:m=0:=by
     rcases Nat.eq_zero_or_pos m with h | h
     · exact h
     · have:0<news.length:=by rw [hl];exact Nat.mul_pos h hsz
       obtain ⟨b,o', ha,_⟩:=hr.at this;cases ha
   subst hm;have:news=[]:=by simpa using hl
   subst this;rw [hnil rfl] at hx;have hrun:=run_append_owned_none (P:=P) (w:=w) base t o.type e i size ht hi v n xs hown;refine gives_value (u:=v) (w' := w) ?_ (h v w (by simpa using hown) (Fr.refl _ _) (fun k hk=>Or.inl hk));simp [execOp,ho,resolve,invoke,builtin,hs,hx,hrun,Result.andThen]
 | some ad=>
   obtain ⟨v', w', hrn,g1,g2,_,g4⟩:=run_append_own_at (P:=P) w base t o.type e i z size bytes ht hi hz hi1 hi2 hz1 hsz v n xs hown ad m cx news hl (fun j u hj=>by
     obtain ⟨b,o', ha,hc⟩:=hr.at (List.getElem?_eq_some_iff.1 hj).1;cases ha
     have:=hc j u hj;unfold Addr.add;split
     · rename_i h;rw [h] at this;simpa using this
     · exact this) (fun u hu=>List.all_eq_true.1 h1 u hu) (by unfold maxLen;omega) (by
     have:(n+m) * bytes<=1000000000 * 100000:=Nat.mul_le_mul (by omega) hb;omega) hbase
   refine gives_value (u:=v') (w' := w') ?_ (h v' w' g1 (Fr.of_grown g2) (fun k hk=>?_))
   · simp only [execOp,ho,resolve,invoke,builtin,Sem.run_bind,Sem.run_pure,Result.andThen_ok,List.map_toArray,List.map_cons,List.map_nil,hs,hx,hrn]
   · rcases g4 with g4 | g4
     · exact Or.inl (g4 ▸ hk)
     · rw [g4] at hk;simp at hk;exact Or.inr (by omega)
end
end Go.Proofs.YtfaihaoajdcjbaaGreatDoor
