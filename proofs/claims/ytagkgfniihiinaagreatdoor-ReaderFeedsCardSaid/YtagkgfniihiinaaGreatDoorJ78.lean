/- The reader: lists: what is none. -/
import Derived.Test.YtagkgfniihiinaaGreatDoorJ76
import Derived.Test.YtagkgfniihiinaaGreatDoorJ50
import Derived.Deep.RegionHeld3
import Derived.Test.YtagkgfniihiinaaGreatDoorJ43
set_option linter.all false
namespace Go.Proofs.YtagkgfniihiinaaGreatDoor
open Go.RowKit
set_option maxRecDepth 100000 in
set_option maxHeartbeats 3200000 in
theorem list_no {rp:Rp} {w0 w:World} {g b o n cap at_ many len:Nat} {s:ByteArray} {d kk:Int} (h:RS rp w0 w g b o n cap s at_ many) (hm:many<=1000000) (hl:len<=100000) (hbad:1000<many+len\/8<=d\/(kk=14/\(len=0\/0<d))) :
   Calls Tryz.prog 70 #[.pointer (some ⟨g,0,none⟩),.int .i64 kk,.int .i64 (len:Int),.int .i64 d] w fun e w' => e=B1 51/\Fr (fun k=>k=g) w w' := by
 have hkk:kk=kk:=rfl
 obtain ⟨W1,hW1⟩:∃W1,W1=(w.alloc (.cells #[.int .i64 0,.string ⟨#[]⟩,.int .i64 0,.float .f64 0,.bool false,.slice none 0 0] 26)).alloc (.cells #[.int .i64 kk,.string ⟨#[]⟩,.int .i64 0,.float .f64 0,.bool false,.slice none 0 0] 26):=⟨_,rfl⟩
 have hT:=Two.start w kk ⟨#[]⟩ 0 0 false
 rw [<-hW1] at hT
 have h1:=h.grow hT.below
 have c2:=h1.scan.c2
 have fz:=h1.scan.blk.frz 2 none
 have e2:(many:Int)+(len:Int)=((many+len:Nat):Int):=by omega
 have hf:Fr (fun k=>k=g) w (W1.setCell ⟨g,2,none⟩ (.int .i64 ((many+len:Nat):Int))):=Fr.setCell (S:=fun k=>k=g) (Ai hT.below) (fun _=>rfl) _
 replace hf:=Hd hf
 replace hW1:=Hd hW1
 replace hT:=Hd hT
 replace h1:=Hd h1
 replace h:=Hd h
 replace hbad:=Hd hbad
 by_cases q1:1000<many+len
 · have y1:(1000:Int)<(many:Int)+(len:Int):=by omega
   clear e2
   go_enter Tryz.func70,Tryz.ntmps70
   go_upto_region 2 with fail
   rw [<-hW1.out];go_wp2_with fail
   refine (Ax _).mono ?_;rintro e w' ⟨rfl,hww⟩;obtain rfl:=hww.symm;refine ⟨rfl,rfl,?_⟩;have:=hf.out;simpa using this
 · have y1:¬(1000:Int)<(many:Int)+(len:Int):=by omega
   by_cases q2:8<=d
   · clear e2
     go_enter Tryz.func70,Tryz.ntmps70
     go_upto_region 2 with fail
     rw [<-hW1.out];go_wp2_with fail
     refine (Ax _).mono ?_;rintro e w' ⟨rfl,hww⟩;obtain rfl:=hww.symm;refine ⟨rfl,rfl,?_⟩;have:=hf.out;simpa using this
   · have q3:kk=14/\(len=0\/0<d):=by have:=hbad.out;omega
     obtain ⟨rfl,q4⟩:=q3;by_cases q5:len=0
     · subst q5
       clear e2
       go_enter Tryz.func70,Tryz.ntmps70
       go_upto_region 2 with fail
       rw [<-hW1.out];go_wp2_with fail
       refine (Ax _).mono ?_;rintro e w' ⟨rfl,hww⟩;obtain rfl:=hww.symm;refine ⟨rfl,rfl,?_⟩;have:=hf.out;simpa using this
     · have y5:((len:Int) == 0)=false:=by simp;omega
       have y6:0<d:=by omega
       clear e2
       go_enter Tryz.func70,Tryz.ntmps70
       go_upto_region 2 with fail
       rw [<-hW1.out];go_wp2_with fail
       refine (Ax _).mono ?_;rintro e w' ⟨rfl,hww⟩;obtain rfl:=hww.symm;refine ⟨rfl,rfl,?_⟩;have:=hf.out;simpa using this
structure LS (rp:Rp) (w0 w wr:World) (g b o n cap:Nat) (s:ByteArray) (kk:Int) (at_ uj mj:Nat) (lv:Value) (css:List (List Value)) (lj:List V):Prop where
 rs:RS rp w0 wr g b o n cap s (at_+uj) mj
 many:mj<=1000
 own:wr.ownsRow (w.heap.size+2) 26 6 lv lj.length css.flatten
 vals:RVs (nf (w.heap.size+2) lv.ownBlock wr) css lj
 full:wr.rangeAt (w.heap.size+1) 0 [.int .i64 kk,.string ⟨#[]⟩,.int .i64 0,.float .f64 0,.bool false,lv]
 zero:wr.rangeAt w.heap.size 0 [.int .i64 0,.string ⟨#[]⟩,.int .i64 0,.float .f64 0,.bool false,.slice none 0 0]
 blk:Blk wr w.heap.size
 blk1:Blk wr (w.heap.size+1)
 fr:Fr (fun k=>k=g) w wr
 size:w.heap.size+2<=wr.heap.size
def Links (need:Nat->List UInt8->Prop) (f:Nat->List UInt8->Out (V × Nat × Nat)) (res:Out (List V × Nat × Nat)) (D:List UInt8) (at_ left uj mj:Nat) (lj:List V):Prop:=
 (match Ba f left mj (D.drop (at_+uj)) with
 | .stop q=>res=.stop q
 | .got (l,u,m)=>res=.got (lj++l,uj+u,m))/\needN need f left mj (D.drop (at_+uj))
theorem Links.need {need:Nat->List UInt8->Prop} {f:Nat->List UInt8->Out (V × Nat × Nat)} {res:Out (List V × Nat × Nat)} {D:List UInt8} {at_ left uj mj:Nat} {lj:List V} (h:Links need f res D at_ (left+1) uj mj lj):need mj (D.drop (at_+uj)):=h.2.1
theorem Links.stop {need:Nat->List UInt8->Prop} {f:Nat->List UInt8->Out (V × Nat × Nat)} {res:Out (List V × Nat × Nat)} {D:List UInt8} {at_ left uj mj q:Nat} {lj:List V} (h:Links need f res D at_ (left+1) uj mj lj) (hf:f mj (D.drop (at_+uj))=.stop q):res=.stop q:=by
 replace h:=h.1;rw [Ba,hf] at h;exact h
theorem Links.next {need:Nat->List UInt8->Prop} {f:Nat->List UInt8->Out (V × Nat × Nat)} {res:Out (List V × Nat × Nat)} {D:List UInt8} {at_ left uj mj u m:Nat} {lj:List V} {v:V} (h:Links need f res D at_ (left+1) uj mj lj) (hf:f mj (D.drop (at_+uj))=.got (v,u,m)) :
   Links need f res D at_ left (uj+u) m (lj++[v]):=by
 have hnd:=h.2.2 v u m hf
 rw [List.drop_drop] at hnd
 replace h:=h.1
 unfold Links
 refine ⟨?_,by rw [show at_+(uj+u)=at_+uj+u by omega];exact hnd⟩
 rw [Ba,hf] at h
 dsimp only at h
 rw [List.drop_drop] at h
 rw [show at_+(uj+u)=at_+uj+u by omega]
 cases hs:Ba f left m (D.drop (at_+uj+u)) with
 | stop q=>rw [hs] at h;exact h
 | got x=>
   obtain ⟨l,u2,m2⟩:=x;rw [hs] at h;dsimp only at h ⊢;rw [h];simp only [List.append_assoc,List.singleton_append,Nat.add_assoc]
theorem Links.last {need:Nat->List UInt8->Prop} {f:Nat->List UInt8->Out (V × Nat × Nat)} {res:Out (List V × Nat × Nat)} {D:List UInt8} {at_ uj mj:Nat} {lj:List V} (h:Links need f res D at_ 0 uj mj lj):res=.got (lj,uj,mj):=by
 replace h:=h.1;rw [Ba] at h;simpa using h
theorem Links.start {need:Nat->List UInt8->Prop} {f:Nat->List UInt8->Out (V × Nat × Nat)} {D:List UInt8} {at_ n m:Nat} (hnd:needN need f n m (D.drop at_)):Links need f (Ba f n m (D.drop at_)) D at_ n 0 m []:=by
 unfold Links;rw [Nat.add_zero];refine ⟨?_,hnd⟩;cases Ba f n m (D.drop at_) with
 | stop q=>rfl
 | got x=>obtain ⟨l,u,m2⟩:=x;simp
end Go.Proofs.YtagkgfniihiinaaGreatDoor
namespace Go.Proofs.YtagkgfniihiinaaGreatDoor
open Go Go.RowKit
theorem Had.val {l:List Oper} {G:Nat->Value->World->Prop} {k:Nat} {a:Act} {w:World} (h:Had l G k a w) {o:Oper} {d:Tmp} (ho:l[k]?=some o) (hd:o.dst=some d):∃v,G k v w/\a.eval (.tmp d)=v:=
 let ⟨v,h1,h2⟩:=h;⟨v,h1,h2 o d ho hd⟩
theorem A8 {a:Act} {t:Tmp} {v:Value} (h:a.eval (.tmp t)=v):a.tmps[t]?.getD undef=v:=by
 rw [<-h];simp [Act.eval]
theorem Finds.old {l:List Oper} {C I:World->Prop} {F:Nat->Bool} {G:Nat->Value->World->Prop} {E:Nat->Nat->Bool} {a0:Act} {i:Nat} {o:Oper} {a:Act} {w:World} (h:Finds l C I G E F a0 i o a w) (t:Nat) (hl:l.all (fun o=>o.dst != some t)=true):a.eval (.tmp t)=a0.tmps.getD t undef:=
 h.rest t fun o ho e=>by have:=List.all_eq_true.1 hl o ho;rw [e] at this;simp at this
theorem Finds.start {l:List Oper} {C I:World->Prop} {ps:List Nat} {G:Nat->Value->World->Prop} {E:Nat->Nat->Bool} {a0:Act} {i:Nat} {o:Oper} {a:Act} {w:World} (h:Finds l C I G E (isIn ps) a0 i o a w) (hb:ps.all (fun j=>decide (j=i) || F4 l j i)=true):I w:=
 h.init fun j hj=>by
   have:=List.all_eq_true.1 hb j (by simpa [isIn] using hj);simpa using this
theorem Finds.got {l:List Oper} {C I:World->Prop} {F:Nat->Bool} {G:Nat->Value->World->Prop} {E:Nat->Nat->Bool} {a0:Act} {i:Nat} {o:Oper} {a:Act} {w:World} (h:Finds l C I G E F a0 i o a w) (k:Nat) {ok:Oper} {d:Tmp}
   (hk:o.after.any (fun e=>decide (e.on=k) && Region.binds .any e)=true) (hE:∀j,E j k=true->j=i) (hok:l[k]?=some ok) (hd:ok.dst=some d):∃v,G k v w/\a.eval (.tmp d)=v:=by
 obtain ⟨e,he,h1⟩:=Array.any_eq_true'.1 hk
 simp only [Bool.and_eq_true,decide_eq_true_eq] at h1
 obtain ⟨h1,h2⟩:=h1
 subst h1
 exact (h.had e he h2 hE).val hok hd
section
variable {P:Program} {o:Oper} {a:Act} {w:World} {R:Value->World->Prop}
theorem gives_load_mid {ty:TypeId} {x:Operand} (ho:o.op=.load ty x) {b off:Nat} (hx:a.eval x=.pointer (some ⟨b,off,none⟩)) {cs:List Value} {d:TypeDesc} (hc:w.rangeAt b off cs) (hu:P.underlying ty=some d) (hd:d.isRow=true)
   (hi:(P.info? ty).map (·.size)=some cs.length) (h:R (.agg cs.toArray) w):Di P o a w R:=by
 refine gives_value (u:=.agg cs.toArray) (w' := w) ?_ h
 unfold execOp
 simp only [ho,hx,Instr.loadAt,Instr.sureAddr,Sem.run_bind,Sem.run_pure,Result.andThen_ok,run_loadVar_mid w b off ty cs d hc hu hd hi]
theorem Dk {ty:TypeId} {x y:Operand} (ho:o.op=.store ty x y) {b off:Nat} {cells:Array Value} (hx:a.eval x=.pointer (some ⟨b,off,none⟩)) (hy:a.eval y=.agg cells) (ht:w.there b off cells.size) (hi:(P.info? ty).map (·.size)=some cells.size)
   (h1:cells.all (·.oneCell')=true) (h:R undef (w.setCells b off cells.toList)):Di P o a w R:=by
 refine gives_skip (w' := w.setCells b off cells.toList) ?_ h
 unfold execOp
 simp only [ho,hx,hy,Instr.storeAt,Instr.sureAddr,Sem.run_bind,Sem.run_pure,Result.andThen_ok,run_storeVar_mid w b off ty cells ht hi h1]
theorem gives_append {s x:Operand} {t e base size bytes n m cx:Nat} {ax:Option Addr} {v:Value} {xs news:List Value}
   (ho:o.op=.call { callee:=.builtin .append,args:=#[s,x],argTypes:=#[t,t] }) (E:Elem P t e size bytes)
   (hs:a.eval s=v) (hown:w.ownsRow base e size v n xs) (hx:a.eval x=.slice ax m cx) (hr:Reads w size (.slice ax m cx) m news) (hnil:ax=none->cx=0) (h1:news.all (fun u=>u.oneCell')=true)
   (hn:n+m<1000000000) (hbase:base<=w.heap.size)
   (h:∀v' w', w'.ownsRow base e size v' (n+m) (xs++news)->Fr (fun k=>v.ownBlock=some k) w w' -> (∀k,v'.ownBlock=some k->v.ownBlock=some k\/w.heap.size<=k)->R v' w'):Di P o a w R:=by
 obtain ⟨ht,hsz,hb,i,z,hi,hz,hi1,hi2,hz1⟩:=E
 have hl:=hr.len.2
 cases ax with
 | none=>
   have hm:m=0:=by
     rcases Nat.eq_zero_or_pos m with h | h
     · exact h
     · have:0<news.length:=by rw [hl];exact Nat.mul_pos h hsz
       obtain ⟨b,o', ha,_⟩:=hr.at this;cases ha
   subst hm;have:news=[]:=by simpa using hl
   subst this;rw [hnil rfl] at hx;have hrun:=run_append_owned_none (P:=P) (w:=w) base t o.type e i size ht hi v n xs hown;refine gives_value (u:=v) (w' := w) ?_ (h v w (by simpa using hown) (Fr.refl _ _) (fun k hk=>Or.inl hk));simp [execOp,ho,resolve,invoke,builtin,hs,hx,hrun,Result.andThen]
 | some ad=>
   obtain ⟨v', w', hrn,g1,g2,_,g4⟩:=run_append_own_at (P:=P) w base t o.type e i z size bytes ht hi hz hi1 hi2 hz1 hsz v n xs hown ad m cx news hl (fun j u hj=>by
     obtain ⟨b,o', ha,hc⟩:=hr.at (List.getElem?_eq_some_iff.1 hj).1;cases ha
     have:=hc j u hj;unfold Addr.add;split
     · rename_i h;rw [h] at this;simpa using this
     · exact this) (fun u hu=>List.all_eq_true.1 h1 u hu) (by unfold maxLen;omega) (by
     have:(n+m) * bytes<=1000000000 * 100000:=Nat.mul_le_mul (by omega) hb;omega) hbase
   refine gives_value (u:=v') (w' := w') ?_ (h v' w' g1 (Fr.of_grown g2) (fun k hk=>?_))
   · simp only [execOp,ho,resolve,invoke,builtin,Sem.run_bind,Sem.run_pure,Result.andThen_ok,List.map_toArray,List.map_cons,List.map_nil,hs,hx,hrn]
   · rcases g4 with g4 | g4
     · exact Or.inl (g4 ▸ hk)
     · rw [g4] at hk;simp at hk;exact Or.inr (by omega)
end
end Go.Proofs.YtagkgfniihiinaaGreatDoor
namespace Go.Proofs.YtagkgfniihiinaaGreatDoor.R2
open Go Go.RowKit
def backC (ops:Array Oper):Bool:=(List.range ops.size).all fun i=>match ops[i]? with
 | some o=>o.after.all (fun e=>!Region.binds .any e || decide (e.on<i)) && (match o.guard with | some (g,_)=>decide (g<i) | none=>true)
 | none=>true
theorem back_atC {ops:Array Oper} (h:backC ops=true) {i:Nat} {o:Oper} (ho:ops[i]?=some o):(∀e∈o.after,Region.binds .any e=true->e.on<i)/\∀g b,o.guard=some (g,b)->g<i:=by
 have hi:=(Array.getElem?_eq_some_iff.1 ho).1;have h1:=List.all_eq_true.1 h i (List.mem_range.2 hi);simp only [ho,Bool.and_eq_true] at h1;refine ⟨fun e he hbd=>?_,fun g b hg=>?_⟩
 · have:=Array.all_eq_true'.1 h1.1 e he
   rw [hbd] at this;simpa using this
 · have:=h1.2
   rw [hg] at this;simpa using this
theorem ready_someC {ops:Array Oper} {listed:Array Bool} (hs:listed.size=ops.size) (hb:backC ops=true):∀(j:Nat),j<ops.size->listed.getD j true=false->Region.ready .any ops listed≠[]:=by
 intro j;induction j using Nat.strongRecOn with
 | ind j ih=>
 intro hj hun;obtain ⟨o,ho⟩:∃o,ops[j]?=some o:=⟨ops[j],by simp [hj]⟩;by_cases hall:o.after.all (fun e=>!Region.binds .any e || listed.getD e.on false)=true
 · intro h0
   have:j∈Region.ready .any ops listed:=by
     unfold Region.ready;rw [List.mem_filter];refine ⟨List.mem_range.2 hj,?_⟩;rw [hun,ho];simpa using hall
   rw [h0] at this;cases this
 · rw [Bool.not_eq_true,Array.all_eq_false'] at hall
   obtain ⟨e,he,h1⟩:=hall;have hbd:Region.binds .any e=true:=by
     cases h:Region.binds .any e with
     | true=>rfl
     | false=>rw [h] at h1;simp at h1
   have hlt:=(back_atC hb ho).1 e he hbd;have h2:listed.getD e.on false=false:=by
     cases h:listed.getD e.on false with
     | false=>rfl
     | true=>rw [h] at h1;simp at h1
   refine ih e.on hlt (by omega) ?_;have hlt' : e.on<listed.size:=by omega
   simp [hlt'] at h2 ⊢;exact h2
theorem C4 {l:Array Bool} {i:Nat} (h:i<l.size):(l.setIfInBounds i true).getD i false=true:=by simp [h]
structure RInv (l:List Oper) (C I:World->Prop) (G:Nat->Value->World->Prop) (E:Nat->Nat->Bool) (F:Nat->Bool) (a0:Act) (listed:Array Bool) (a:Act) (w:World):Prop where
 c:C w
 defers:a.defers=a0.defers
 size:a.tmps.size=a0.tmps.size
 rest:∀t,(∀k o,l[k]?=some o->o.dst=some t->listed.getD k false=false)->a.tmps.getD t undef=a0.tmps.getD t undef
 had:∀k,k<l.length->listed.getD k false=true->(∀i,E i k=true->listed.getD i false=false)->Had l G k a w
 init:(∀j,F j=true->listed.getD j false=false)->I w
 closed:∀k o,l[k]?=some o->listed.getD k false=true->∀e∈o.after,Region.binds .any e=true->listed.getD e.on false=true
def Ct (l:List Oper):Nat->Nat->Nat->Bool
 | 0,_,_=>false
 | f+1,k,i=>match l[k]? with | some o=>o.after.any (fun e=>Region.binds .any e && (decide (e.on=i) || Ct l f e.on i)) | none=>false
theorem RInv.waits {l:List Oper} {C I:World->Prop} {G:Nat->Value->World->Prop} {E:Nat->Nat->Bool} {F:Nat->Bool} {a0:Act} {listed:Array Bool} {a:Act} {w:World} (h:RInv l C I G E F a0 listed a w) {i:Nat}:∀(f k:Nat),Ct l f k i=true->listed.getD k false=true->listed.getD i false=true
 | 0,k,e,_=>by cases e
 | f+1,k,e,hk=>by
   unfold Ct at e;split at e
   · rename_i o ho
     obtain ⟨ed,he,h1⟩:=Array.any_eq_true'.1 e;simp only [Bool.and_eq_true,Bool.or_eq_true,decide_eq_true_eq] at h1;have h2:=h.closed k o ho hk ed he h1.1;rcases h1.2 with h3 | h3
     · rw [<-h3];exact h2
     · exact h.waits f ed.on h3 h2
   · cases e
structure Finds (l:List Oper) (C I:World->Prop) (G:Nat->Value->World->Prop) (E:Nat->Nat->Bool) (F:Nat->Bool) (a0:Act) (i:Nat) (o:Oper) (a:Act) (w:World):Prop where
 c:C w
 size:a.tmps.size=a0.tmps.size
 rest:∀t,(∀k o,l[k]?=some o->o.dst=some t->k=i\/Ct l 9 k i=true)->a.tmps.getD t undef=a0.tmps.getD t undef
 had:∀e∈o.after,Region.binds .any e=true->(∀j,E j e.on=true->j=i)->Had l G e.on a w
 init:(∀j,F j=true->j=i\/Ct l 9 j i=true)->I w
theorem RInv.step {l:List Oper} {C I:World->Prop} {F:Nat->Bool} {G:Nat->Value->World->Prop} {a0:Act} {listed:Array Bool} {a:Act} {w w' : World} {E:Nat->Nat->Bool} (h:RInv l C I G E F a0 listed a w) (hn:(l.filterMap (·.dst)).Nodup) (hsz:∀d∈l.filterMap (·.dst),d<a0.tmps.size)
   {i:Nat} {o:Oper} {v:Value} (hi:l[i]?=some o) (hs:listed.size=l.length) (hun:listed.getD i true=false) (hc:C w') (haf:∀e∈o.after,Region.binds .any e=true->listed.getD e.on false=true) (hst:∀k u,k≠i->exB l E i k=false->G k u w->G k u w') (hin:F i=false->I w->I w') (hv:G i v w'):RInv l C I G E F a0 (listed.setIfInBounds i true) (a.put o.dst v) w' := by
 refine ⟨hc,Ez.trans h.defers,Dz.trans h.size,fun t ht=>?_,fun k hk hl he=>?_,fun hj=>?_,fun k ok hok hl e he hb=>?_⟩
 · have hil:i<listed.size:=by rw [hs];exact (List.getElem?_eq_some_iff.1 hi).1
   rw [B3 (fun e=>by
     have:=ht i o hi e;rw [C4 hil] at this;cases this)]
   refine h.rest t fun k ok hk hd=>?_;have:=ht k ok hk hd;by_cases hki:i=k
   · subst hki;rw [C4 hil] at this;cases this
   · rw [getD_set_ne false hki] at this;exact this
 · by_cases hki:k=i
   · subst hki
     refine ⟨v,hv,fun o' d ho hd=>?_⟩;rw [hi] at ho;cases ho;rw [hd,Cp];rw [h.size];exact hsz d (List.mem_filterMap.2 ⟨o,List.mem_of_getElem? hi,hd⟩)
   · have hl' : listed.getD k false=true:=by rw [<-hl];simp [Array.getElem?_setIfInBounds_ne (Ne.symm hki)]
     have hil:i<listed.size:=by rw [hs];exact (List.getElem?_eq_some_iff.1 hi).1
     have hik:E i k=false:=by
       cases hh:E i k with
       | false=>rfl
       | true=>have:=he i hh;simp [hil] at this
     have hex:exB l E i k=false:=by
       unfold exB;rw [hik,hi,Bool.false_or,Bool.or_eq_false_iff];refine ⟨?_,?_⟩
       · dsimp only
         rw [Array.any_eq_false'];intro e hem h1;simp only [Bool.and_eq_true] at h1;have h2:=he e.on h1.2;rw [getD_set_true (haf e hem h1.1)] at h2;cases h2
       · unfold F4
         split
         · rename_i ok hok
           rw [Array.any_eq_false'];intro e hem h1;simp only [Bool.and_eq_true,decide_eq_true_eq] at h1;have h2:=h.closed k ok hok hl' e hem h1.1;rw [h1.2] at h2;simp [hil] at h2 hun;rw [h2] at hun;cases hun
         · rfl
     obtain ⟨u,hu,hd⟩:=h.had k hk hl' (fun j hj=>by
       have h1:=he j hj;by_cases hji:i=j
       · subst hji;rw [hik] at hj;cases hj
       · rw [getD_set_ne false hji] at h1;exact h1)
     refine ⟨u,hst k u hki hex hu,fun o' d ho hd' => ?_⟩;rw [B3 (fun e=>dst_ne hn hi ho (Ne.symm hki) e hd' rfl)];exact hd o' d ho hd'
 · have hil:i<listed.size:=by rw [hs];exact (List.getElem?_eq_some_iff.1 hi).1
   have hF:F i=false:=by
     cases hh:F i with
     | false=>rfl
     | true=>have:=hj i hh;simp [hil] at this
   refine hin hF (h.init fun j hjF=>?_);by_cases hji:i=j
   · subst hji;rw [hF] at hjF;cases hjF
   · have:=hj j hjF;rw [getD_set_ne false hji] at this;exact this
 · by_cases hki:k=i
   · subst hki
     rw [hi] at hok;cases hok;exact getD_set_true (haf e he hb)
   · rw [getD_set_ne false (Ne.symm hki)] at hl
     exact getD_set_true (h.closed k ok hok hl e he hb)
theorem wpAny_rely {P:Program} {l:List Oper} {C I:World->Prop} {F:Nat->Bool} {R:Nat->World->World->Prop} {G:Nat->Value->World->Prop} {E:Nat->Nat->Bool} {a0:Act} {Q:Exit->Act->World->Prop} (hb:backC l.toArray=true) (hn:(l.filterMap (·.dst)).Nodup) (hsz:∀d∈l.filterMap (·.dst),d<a0.tmps.size)
   (hst:∀i k u w w', k≠i->exB l E i k=false->G k u w->R i w w' -> G k u w') (hin:∀i w w', F i=false->I w->R i w w' -> I w')
   (hvc:∀i o,l[i]?=some o->∀a w,Finds l C I G E F a0 i o a w->if Region.wanted o (yielded l.toArray a.tmps) then Di P o a w (fun v w' => C w' /\ R i w w' /\ G i v w') else G i undef w)
   (hQ:∀listed a w,RInv l C I G E F a0 listed a w->(∀k,k<l.length->(∀i,i<l.length->E i k=false)->Had l G k a w)->Q .normal a w):∀(fuel:Nat) (listed:Array Bool) (a:Act) (w:World),listed.size=l.length->listed.toList.count false=fuel->RInv l C I G E F a0 listed a w ->
   wpAny P .any l.toArray Q fuel listed a w:=by
 have hs' : l.toArray.size=l.length:=by simp
 intro fuel
 induction fuel with
 | zero=>
   intro listed a w hs hc h;have hall:∀j,j<l.length->listed.getD j true=true:=fun j hj=>by
     cases hh:listed.getD j true with
     | true=>rfl
     | false=>
       have hlt:j<listed.size:=by omega
       have:false∈listed.toList:=by
         have e:listed[j]=false:=by simpa [hlt] using hh
         rw [<-e];exact Array.getElem_mem_toList hlt
       have:=List.count_pos_iff.2 this;omega
   refine ⟨?_,hQ listed a w h (fun k hk he=>h.had k hk ?_ (fun i hi=>?_))⟩
   · unfold Region.ready
     rw [List.filter_eq_nil_iff];intro i hi;have hi:=List.mem_range.1 hi;rw [hall i (by simpa using hi)];simp
   · have:=hall k hk
     have hlt:k<listed.size:=by omega
     simp [hlt] at this ⊢;exact this
   · by_cases hlt:i<l.length
     · rw [he i hlt] at hi;cases hi
     · have:listed.size<=i:=by omega
       simp [Array.getElem?_eq_none this]
 | succ fuel ih=>
   intro listed a w hs hc h;obtain ⟨j,hj,hun⟩:∃j,j<l.length/\listed.getD j true=false:=by
     have:false∈listed.toList:=List.count_pos_iff.1 (by omega);obtain ⟨j,hj,he⟩:=List.getElem_of_mem this;have hj' : j<listed.size:=by simpa using hj
     exact ⟨j,by omega,by simp [hj'];simpa using he⟩
   have hne:=ready_someC (ops:=l.toArray) (by omega) hb j (by omega) hun;refine ⟨fun h0=>absurd h0 hne,fun i hi=>?_⟩;obtain ⟨hli,o,ho,hafter⟩:=mem_ready.1 hi;have ho' : l[i]?=some o:=by simpa using ho
   have hil:=(List.getElem?_eq_some_iff.1 ho').1;have hlt:i<listed.size:=by omega
   have hget:listed.toList[i]?=some false:=by
     have e:listed[i]=false:=by simpa [hlt] using hli
     simp [hlt,e]
   have hset:(listed.setIfInBounds i true).size=l.length:=by simpa using hs
   have hcnt:(listed.setIfInBounds i true).toList.count false=fuel:=by
     have:=Fp listed.toList i hget;simp only [Array.toList_setIfInBounds];omega
   have hui:listed.getD i false=false:=by simp [hlt] at hli ⊢;exact hli
   have hno:∀k,k=i\/Ct l 9 k i=true->listed.getD k false=false:=fun k hk=>by
     rcases hk with e | e
     · subst e;exact hui
     · cases hh:listed.getD k false with
       | false=>rfl
       | true=>have:=h.waits 9 k e hh;rw [hui] at this;cases this
   have hv:=hvc i o ho' a w ⟨h.c,h.size,fun t ht=>h.rest t fun k ok hk hd=>hno k (ht k ok hk hd),fun e he hbd hE=>h.had e.on (by have:=(back_atC hb ho).1 e he hbd;omega) (hafter e he hbd) (fun j hj=>by
     have:=hE j hj;subst this;exact hui),fun hF=>h.init fun j hj=>hno j (hF j hj)⟩
   unfold wpOp;rw [ho];dsimp only;split
   · rename_i hw
     rw [if_pos hw] at hv;exact .inl (wp_of_gives hv fun v w' ⟨h1,h2,h3⟩=>ih _ _ _ hset hcnt (h.step hn hsz ho' hs hli h1 hafter (fun k u hk hek hu=>hst i k u w w' hk hek hu h2) (fun hf hi=>hin i w w' hf hi h2) h3))
   · rename_i hw
     rw [if_neg hw] at hv;exact ih _ _ _ hset hcnt (h.step hn hsz ho' hs hli h.c hafter (fun k u _ _ hu=>hu) (fun _ hi=>hi) hv)
def putFrom:List Oper->Nat->(Nat->Value)->Act->Act
 | [],_,_,a=>a
 | o :: l,k,vs,a=>putFrom l (k+1) vs (a.put o.dst (vs k))
theorem putFrom_size:∀(l:List Oper) (k:Nat) (vs:Nat->Value) (a:Act),(putFrom l k vs a).tmps.size=a.tmps.size
 | [],_,_,_=>rfl
 | o :: l,k,vs,a=>by rw [putFrom,putFrom_size l];exact Dz
theorem putFrom_defers:∀(l:List Oper) (k:Nat) (vs:Nat->Value) (a:Act),(putFrom l k vs a).defers=a.defers
 | [],_,_,_=>rfl
 | o :: l,k,vs,a=>by rw [putFrom,putFrom_defers l];exact Ez
theorem putFrom_rest:∀(l:List Oper) (k:Nat) (vs:Nat->Value) (a:Act) (t:Nat),(∀o∈l,o.dst≠some t)->(putFrom l k vs a).tmps.getD t undef=a.tmps.getD t undef
 | [],_,_,_,_,_=>rfl
 | o :: l,k,vs,a,t,h=>by
   rw [putFrom,putFrom_rest l _ _ _ t (fun o' ho' => h o' (List.mem_cons_of_mem _ ho'))];exact B3 (h o (by simp))
theorem putFrom_at:∀(l:List Oper) (k:Nat) (vs:Nat->Value) (a:Act),(l.filterMap (·.dst)).Nodup->(∀d∈l.filterMap (·.dst),d<a.tmps.size)->∀(i:Nat) (o:Oper) (d:Tmp),l[i]?=some o->o.dst=some d->(putFrom l k vs a).tmps.getD d undef=vs (k+i)
 | [],_,_,_,_,_,i,_,_,hi,_=>by simp at hi
 | o :: l,k,vs,a,hn,hsz,i,o', d,hi,hd=>by
   have hn' : (l.filterMap (·.dst)).Nodup:=by
     cases h:o.dst with
     | none=>rw [List.filterMap_cons_none h] at hn;exact hn
     | some x=>rw [List.filterMap_cons_some h] at hn;exact (List.nodup_cons.1 hn).2
   have hsz' : ∀d∈l.filterMap (·.dst),d<(a.put o.dst (vs k)).tmps.size:=fun d hd=>by
     rw [Dz];obtain ⟨x,hx,hxd⟩:=List.mem_filterMap.1 hd;exact hsz d (List.mem_filterMap.2 ⟨x,List.mem_cons_of_mem _ hx,hxd⟩)
   rw [putFrom];rcases i with _ | i
   · simp at hi;subst hi
     rw [putFrom_rest,hd,Cp];· rfl
     · exact hsz d (List.mem_filterMap.2 ⟨o,by simp,hd⟩)
     · intro o' ho' e
       rw [List.filterMap_cons_some hd] at hn;exact (List.nodup_cons.1 hn).1 (List.mem_filterMap.2 ⟨o', ho', e⟩)
   · rw [putFrom_at l (k+1) vs _ hn' hsz' i o' d (by simpa using hi) hd]
     congr 1;omega
theorem rely_frame {l:List Oper} {C I:World->Prop} {F:Nat->Bool} {G:Nat->Value->World->Prop} {E:Nat->Nat->Bool} {a0:Act} {listed:Array Bool} {a:Act} {w:World} (hn:(l.filterMap (·.dst)).Nodup) (hsz:∀d∈l.filterMap (·.dst),d<a0.tmps.size) (h:RInv l C I G E F a0 listed a w)
   (hall:∀k,k<l.length->(∀i,i<l.length->E i k=false)->Had l G k a w):∃vs:Nat->Value,a=putFrom l 0 vs a0/\∀k,k<l.length->(∀i,i<l.length->E i k=false)->G k (vs k) w:=by
 have key:∃vs:Nat->Value,∀k,k<l.length->((∀i,i<l.length->E i k=false)->G k (vs k) w)/\∀o d,l[k]?=some o->o.dst=some d->a.tmps.getD d undef=vs k:=by
   have pt:∀k,∃v,k<l.length->((∀i,i<l.length->E i k=false)->G k v w)/\∀o d,l[k]?=some o->o.dst=some d->a.tmps.getD d undef=v:=by
     intro k;by_cases hk:k<l.length
     · by_cases he:∀i,i<l.length->E i k=false
       · obtain ⟨v,h1,h2⟩:=hall k hk he
         exact ⟨v,fun _=>⟨fun _=>h1,h2⟩⟩
       · cases hd:(l[k]).dst with
         | none=>exact ⟨undef,fun _=>⟨fun h=>absurd h he,fun o d ho hdd=>by rw [List.getElem?_eq_getElem hk] at ho;cases ho;rw [hd] at hdd;cases hdd⟩⟩
         | some d=>exact ⟨a.tmps.getD d undef,fun _=>⟨fun h=>absurd h he,fun o d' ho hdd=>by rw [List.getElem?_eq_getElem hk] at ho;cases ho;rw [hd] at hdd;cases hdd;rfl⟩⟩
     · exact ⟨undef,fun h=>absurd h hk⟩
   exact ⟨fun k=>Classical.choose (pt k),fun k hk=>Classical.choose_spec (pt k) hk⟩
 obtain ⟨vs,hvs⟩:=key
 refine ⟨vs,?_,fun k hk he=>(hvs k hk).1 he⟩
 have e1:a.tmps=(putFrom l 0 vs a0).tmps:=by
   apply Array.ext
   · rw [h.size,putFrom_size]
   · intro t h1 h2
     have g1:a.tmps[t]=a.tmps.getD t undef:=by simp [h1]
     have g2:(putFrom l 0 vs a0).tmps[t]=(putFrom l 0 vs a0).tmps.getD t undef:=by simp [h2]
     rw [g1,g2];by_cases hx:∃(k:Nat) (o:Oper),l[k]?=some o/\o.dst=some t
     · obtain ⟨k,o,ho,hdt⟩:=hx
       rw [(hvs k (List.getElem?_eq_some_iff.1 ho).1).2 o t ho hdt,putFrom_at l 0 vs a0 hn hsz k o t ho hdt,Nat.zero_add]
     · have hno:∀o∈l,o.dst≠some t:=fun o hom e=>by
         obtain ⟨k,hk,rfl⟩:=List.getElem_of_mem hom;exact hx ⟨k,l[k],by simp [hk],e⟩
       rw [h.rest t (fun k o ho hd=>absurd hd (hno o (List.mem_of_getElem? ho))),putFrom_rest l 0 vs a0 t hno]
 have e2:=h.defers
 have e3:=putFrom_defers l 0 vs a0
 cases a;cases hp:putFrom l 0 vs a0
 rw [hp] at e1 e3
 simp only at e1 e2 e3
 subst e1;simp only [Act.mk.injEq,true_and];rw [e2,e3]
def VC (P:Program) (l:List Oper) (C I:World->Prop) (R:Nat->World->World->Prop) (G:Nat->Value->World->Prop) (E:Nat->Nat->Bool) (F:Nat->Bool) (a0:Act) (i:Nat) (o:Oper):Prop:=
 ∀a w,Finds l C I G E F a0 i o a w->if Region.wanted o (yielded l.toArray a.tmps) then Di P o a w (fun v w' => C w' /\ R i w w' /\ G i v w') else G i undef w
def VCs (P:Program) (l:List Oper) (C I:World->Prop) (R:Nat->World->World->Prop) (G:Nat->Value->World->Prop) (E:Nat->Nat->Bool) (F:Nat->Bool) (a0:Act):List Oper->Nat->Prop
 | [],_=>True
 | o :: r,i=>VC P l C I R G E F a0 i o/\VCs P l C I R G E F a0 r (i+1)
theorem VCs.at {P:Program} {l:List Oper} {C I:World->Prop} {F:Nat->Bool} {R:Nat->World->World->Prop} {G:Nat->Value->World->Prop} {E:Nat->Nat->Bool} {a0:Act}:∀{r:List Oper} {j:Nat},VCs P l C I R G E F a0 r j->∀(i:Nat) (o:Oper),r[i]?=some o->VC P l C I R G E F a0 (j+i) o
 | [],_,_,i,o,h=>by simp at h
 | o' :: r,j,h,i,o,ho=>by
   rcases i with _ | i
   · simp at ho;subst ho;exact h.1
   · have:=h.2.at i o (by simpa using ho)
     rw [show j+(i+1)=j+1+i by omega];exact this
theorem VC.plain {P:Program} {l:List Oper} {C I:World->Prop} {F:Nat->Bool} {R:Nat->World->World->Prop} {G:Nat->Value->World->Prop} {E:Nat->Nat->Bool} {a0:Act} {i:Nat} {o:Oper} (hg:o.guard=none) (h:∀a w,Finds l C I G E F a0 i o a w->Di P o a w (fun v w' => C w' /\ R i w w' /\ G i v w')):VC P l C I R G E F a0 i o:=fun a w hf=>by
 rw [if_pos (by unfold Region.wanted;rw [hg])];exact h a w hf
theorem wp_region_rely {P:Program} {id:Nat} {l:List Oper} {Q:Exit->Act->World->Prop} {a0:Act} {w:World} (C I:World->Prop) (R:Nat->World->World->Prop) (G:Nat->Value->World->Prop) (E:Nat->Nat->Bool) (F:Nat->Bool) (hm:P.follows .mixedOrders=true) (hb:backC l.toArray=true) (hd:dstsB l a0.tmps.size=true)
   (hC:C w.drew) (hI:I w.drew) (hst:∀i k u w w', k≠i->exB l E i k=false->G k u w->R i w w' -> G k u w') (hin:∀i w w', F i=false->I w->R i w w' -> I w') (hvc:VCs P l C I R G E F a0 l 0)
   (hQ:∀(vs:Nat->Value) w,C w->(∀k,k<l.length->(∀i,i<l.length->E i k=false)->G k (vs k) w)->Q .normal (putFrom l 0 vs a0) w):(Code.region id l.toArray true).wp P Q a0 w:=by
 simp only [dstsB,Bool.and_eq_true,decide_eq_true_eq] at hd
 have hsz:∀d∈l.filterMap (·.dst),d<a0.tmps.size:=fun d hdm=>by simpa using List.all_eq_true.1 hd.1 d hdm
 refine wp_region_any hm ?_
 have:=wpAny_rely (P:=P) (l:=l) (C:=C) (I:=I) (F:=F) (R:=R) (G:=G) (E:=E) (a0:=a0) (Q:=Q) hb hd.2 hsz hst hin (fun i o ho=>by have:=hvc.at i o ho;rw [Nat.zero_add] at this;exact this) (fun listed a w h hall=>?_) l.length (Array.replicate l.length false) a0 w.drew (by simp) (by simp)
   ⟨hC,rfl,rfl,fun _ _=>rfl,fun k hk h=>by simp [hk] at h,fun _=>hI,fun k o ho h=>by have:=(List.getElem?_eq_some_iff.1 ho).1;simp [this] at h⟩
 · simpa using this
 · obtain ⟨vs,e,hG⟩:=rely_frame hd.2 hsz h hall
   rw [e];exact hQ vs w h.c hG
theorem Finds.old {l:List Oper} {C I:World->Prop} {F:Nat->Bool} {G:Nat->Value->World->Prop} {E:Nat->Nat->Bool} {a0:Act} {i:Nat} {o:Oper} {a:Act} {w:World} (h:Finds l C I G E F a0 i o a w) (t:Nat) (hl:(List.range l.length).all (fun k=>match l[k]? with | some o=>!(o.dst == some t) || decide (k=i) || Ct l 9 k i | none=>true)=true):a.eval (.tmp t)=a0.tmps.getD t undef:=
 h.rest t fun k o ho e=>by
   have:=List.all_eq_true.1 hl k (List.mem_range.2 (List.getElem?_eq_some_iff.1 ho).1);rw [ho] at this;simpa [e] using this
theorem Finds.start {l:List Oper} {C I:World->Prop} {ps:List Nat} {G:Nat->Value->World->Prop} {E:Nat->Nat->Bool} {a0:Act} {i:Nat} {o:Oper} {a:Act} {w:World} (h:Finds l C I G E (isIn ps) a0 i o a w) (hb:ps.all (fun j=>decide (j=i) || Ct l 9 j i)=true):I w:=
 h.init fun j hj=>by
   have:=List.all_eq_true.1 hb j (by simpa [isIn] using hj);simpa using this
theorem Finds.got {l:List Oper} {C I:World->Prop} {F:Nat->Bool} {G:Nat->Value->World->Prop} {E:Nat->Nat->Bool} {a0:Act} {i:Nat} {o:Oper} {a:Act} {w:World} (h:Finds l C I G E F a0 i o a w) (k:Nat) {ok:Oper} {d:Tmp}
   (hk:o.after.any (fun e=>decide (e.on=k) && Region.binds .any e)=true) (hE:∀j,E j k=true->j=i) (hok:l[k]?=some ok) (hd:ok.dst=some d):∃v,G k v w/\a.eval (.tmp d)=v:=by
 obtain ⟨e,he,h1⟩:=Array.any_eq_true'.1 hk
 simp only [Bool.and_eq_true,decide_eq_true_eq] at h1
 obtain ⟨h1,h2⟩:=h1
 subst h1
 exact (h.had e he h2 hE).val hok hd
end Go.Proofs.YtagkgfniihiinaaGreatDoor.R2
namespace Go.Proofs.YtagkgfniihiinaaGreatDoor.R2.R3
open Go Go.RowKit
def D0 (P:Program) (Z:List PanicEntry->World->Prop) (o:Oper) (a:Act) (w:World) (R:Value->World->Prop):Prop:=
 match (execOp a.eval o).run P w with
 | .ok (.value u) w' => R u w'
 | .ok .skip w' => R undef w'
 | .ok (.enter f args) w' => Calls P f args w' fun e w'' => (∃v,e=.returned v/\R v w'')\/∃c,e=.panicked c/\Z c w''
 | .ok (.row row args) w' => Rows P row args w' R
 | _=>False
theorem wp_of_givesZ {P:Program} {Z:List PanicEntry->World->Prop} {o:Oper} {a:Act} {w:World} {R:Value->World->Prop} {K:Act->World->Prop} {Q:Exit->Act->World->Prop} (h:D0 P Z o a w R) (hz:∀c w', Z c w' -> Q (.panic c) a w') (hk:∀v w', R v w' -> K (a.put o.dst v) w'):o.wp P a w K Q:=by
 unfold D0 at h;unfold Oper.wp;generalize (execOp a.eval o).run P w=r at h ⊢;cases r with
 | ok n w' =>
   cases n<;>simp only [Oper.upon] at h ⊢
   case value u=>exact hk _ _ h
   case skip=>exact hk _ _ h
   case enter f args=>
     refine h.mono fun e w'' he=>?_;rcases he with ⟨v,he,hr⟩ | ⟨c,he,hr⟩
     · subst he;exact hk _ _ hr
     · subst he;exact hz _ _ hr
   case row row args=>exact Rows.mono h fun v w'' hr=>hk _ _ hr
   all_goals exact h.elim
 | halt x w' => exact h.elim
section
variable {P:Program} {Z:List PanicEntry->World->Prop} {o:Oper} {a:Act} {w w' : World} {R:Value->World->Prop}
theorem givesZ_of (h:Di P o a w R):D0 P Z o a w R:=by
 unfold Di at h;unfold D0;generalize (execOp a.eval o).run P w=r at h ⊢;cases r with
 | ok n w' =>
   cases n
   case enter f args=>exact Calls.mono h fun e w'' he=>.inl he
   all_goals exact h
 | halt x w' => exact h
theorem gives_value {u:Value} (h:(execOp a.eval o).run P w=.ok (.value u) w') (hr:R u w'):D0 P Z o a w R:=givesZ_of (Go.Proofs.YtagkgfniihiinaaGreatDoor.gives_value h hr)
theorem gives_skip (h:(execOp a.eval o).run P w=.ok .skip w') (hr:R undef w'):D0 P Z o a w R:=givesZ_of (Go.Proofs.YtagkgfniihiinaaGreatDoor.gives_skip h hr)
theorem gives_callZ {f:FuncId} {args:Array Value} (h:(execOp a.eval o).run P w=.ok (.enter f args) w') (hr:Calls P f args w' fun e w'' => (∃v,e=.returned v/\R v w'')\/∃c,e=.panicked c/\Z c w''):D0 P Z o a w R:=by
 unfold D0;rw [h];exact hr
end
structure RInv (l:List Oper) (C:World->Prop) (I:Bool->World->Prop) (G:Nat->Value->World->Prop) (E:Nat->Nat->Bool) (F:Bool->Nat->Bool) (a0:Act) (listed:Array Bool) (a:Act) (w:World):Prop where
 c:C w
 defers:a.defers=a0.defers
 size:a.tmps.size=a0.tmps.size
 rest:∀t,(∀k o,l[k]?=some o->o.dst=some t->listed.getD k false=false)->a.tmps.getD t undef=a0.tmps.getD t undef
 had:∀k,k<l.length->listed.getD k false=true->(∀i,E i k=true->listed.getD i false=false)->Had l G k a w
 init:∀q,(∀j,F q j=true->listed.getD j false=false)->I q w
 closed:∀k o,l[k]?=some o->listed.getD k false=true->∀e∈o.after,Region.binds .any e=true->listed.getD e.on false=true
theorem RInv.waits {l:List Oper} {C:World->Prop} {I:Bool->World->Prop} {G:Nat->Value->World->Prop} {E:Nat->Nat->Bool} {F:Bool->Nat->Bool} {a0:Act} {listed:Array Bool} {a:Act} {w:World} (h:RInv l C I G E F a0 listed a w) {i:Nat}:∀(f k:Nat),Ct l f k i=true->listed.getD k false=true->listed.getD i false=true
 | 0,k,e,_=>by cases e
 | f+1,k,e,hk=>by
   unfold Ct at e;split at e
   · rename_i o ho
     obtain ⟨ed,he,h1⟩:=Array.any_eq_true'.1 e;simp only [Bool.and_eq_true,Bool.or_eq_true,decide_eq_true_eq] at h1;have h2:=h.closed k o ho hk ed he h1.1;rcases h1.2 with h3 | h3
     · rw [<-h3];exact h2
     · exact h.waits f ed.on h3 h2
   · cases e
structure Finds (l:List Oper) (C:World->Prop) (I:Bool->World->Prop) (G:Nat->Value->World->Prop) (E:Nat->Nat->Bool) (F:Bool->Nat->Bool) (a0:Act) (i:Nat) (o:Oper) (a:Act) (w:World):Prop where
 c:C w
 size:a.tmps.size=a0.tmps.size
 rest:∀t,(∀k o,l[k]?=some o->o.dst=some t->k=i\/Ct l 9 k i=true)->a.tmps.getD t undef=a0.tmps.getD t undef
 had:∀e∈o.after,Region.binds .any e=true->(∀j,E j e.on=true->j=i)->Had l G e.on a w
 init:∀q,(∀j,F q j=true->j=i\/Ct l 9 j i=true)->I q w
theorem RInv.step {l:List Oper} {C:World->Prop} {I:Bool->World->Prop} {F:Bool->Nat->Bool} {G:Nat->Value->World->Prop} {a0:Act} {listed:Array Bool} {a:Act} {w w' : World} {E:Nat->Nat->Bool} (h:RInv l C I G E F a0 listed a w) (hn:(l.filterMap (·.dst)).Nodup) (hsz:∀d∈l.filterMap (·.dst),d<a0.tmps.size)
   {i:Nat} {o:Oper} {v:Value} (hi:l[i]?=some o) (hs:listed.size=l.length) (hun:listed.getD i true=false) (hc:C w') (haf:∀e∈o.after,Region.binds .any e=true->listed.getD e.on false=true) (hst:∀k u,k≠i->exB l E i k=false->G k u w->G k u w') (hin:∀q,F q i=false->I q w->I q w') (hv:G i v w'):RInv l C I G E F a0 (listed.setIfInBounds i true) (a.put o.dst v) w' := by
 refine ⟨hc,Ez.trans h.defers,Dz.trans h.size,fun t ht=>?_,fun k hk hl he=>?_,fun q hj=>?_,fun k ok hok hl e he hb=>?_⟩
 · have hil:i<listed.size:=by rw [hs];exact (List.getElem?_eq_some_iff.1 hi).1
   rw [B3 (fun e=>by
     have:=ht i o hi e;rw [C4 hil] at this;cases this)]
   refine h.rest t fun k ok hk hd=>?_;have:=ht k ok hk hd;by_cases hki:i=k
   · subst hki;rw [C4 hil] at this;cases this
   · rw [getD_set_ne false hki] at this;exact this
 · by_cases hki:k=i
   · subst hki
     refine ⟨v,hv,fun o' d ho hd=>?_⟩;rw [hi] at ho;cases ho;rw [hd,Cp];rw [h.size];exact hsz d (List.mem_filterMap.2 ⟨o,List.mem_of_getElem? hi,hd⟩)
   · have hl' : listed.getD k false=true:=by rw [<-hl];simp [Array.getElem?_setIfInBounds_ne (Ne.symm hki)]
     have hil:i<listed.size:=by rw [hs];exact (List.getElem?_eq_some_iff.1 hi).1
     have hik:E i k=false:=by
       cases hh:E i k with
       | false=>rfl
       | true=>have:=he i hh;simp [hil] at this
     have hex:exB l E i k=false:=by
       unfold exB;rw [hik,hi,Bool.false_or,Bool.or_eq_false_iff];refine ⟨?_,?_⟩
       · dsimp only
         rw [Array.any_eq_false'];intro e hem h1;simp only [Bool.and_eq_true] at h1;have h2:=he e.on h1.2;rw [getD_set_true (haf e hem h1.1)] at h2;cases h2
       · unfold F4
         split
         · rename_i ok hok
           rw [Array.any_eq_false'];intro e hem h1;simp only [Bool.and_eq_true,decide_eq_true_eq] at h1;have h2:=h.closed k ok hok hl' e hem h1.1;rw [h1.2] at h2;simp [hil] at h2 hun;rw [h2] at hun;cases hun
         · rfl
     obtain ⟨u,hu,hd⟩:=h.had k hk hl' (fun j hj=>by
       have h1:=he j hj;by_cases hji:i=j
       · subst hji;rw [hik] at hj;cases hj
       · rw [getD_set_ne false hji] at h1;exact h1)
     refine ⟨u,hst k u hki hex hu,fun o' d ho hd' => ?_⟩;rw [B3 (fun e=>dst_ne hn hi ho (Ne.symm hki) e hd' rfl)];exact hd o' d ho hd'
 · have hil:i<listed.size:=by rw [hs];exact (List.getElem?_eq_some_iff.1 hi).1
   have hF:F q i=false:=by
     cases hh:F q i with
     | false=>rfl
     | true=>have:=hj i hh;simp [hil] at this
   refine hin q hF (h.init q fun j hjF=>?_);by_cases hji:i=j
   · subst hji;rw [hF] at hjF;cases hjF
   · have:=hj j hjF;rw [getD_set_ne false hji] at this;exact this
 · by_cases hki:k=i
   · subst hki
     rw [hi] at hok;cases hok;exact getD_set_true (haf e he hb)
   · rw [getD_set_ne false (Ne.symm hki)] at hl
     exact getD_set_true (h.closed k ok hok hl e he hb)
theorem wpAny_rely {P:Program} {l:List Oper} {C:World->Prop} {I:Bool->World->Prop} {F:Bool->Nat->Bool} {R:Nat->World->World->Prop} {G:Nat->Value->World->Prop} {E:Nat->Nat->Bool} {a0:Act} {Q:Exit->Act->World->Prop} {Z:List PanicEntry->World->Prop} (hZ:∀c a w,a.defers=a0.defers->Z c w->Q (.panic c) a w) (hb:backC l.toArray=true) (hn:(l.filterMap (·.dst)).Nodup) (hsz:∀d∈l.filterMap (·.dst),d<a0.tmps.size)
   (hst:∀i k u w w', k≠i->exB l E i k=false->G k u w->R i w w' -> G k u w') (hin:∀q i w w', F q i=false->I q w->R i w w' -> I q w')
   (hvc:∀i o,l[i]?=some o->∀a w,Finds l C I G E F a0 i o a w->if Region.wanted o (yielded l.toArray a.tmps) then D0 P Z o a w (fun v w' => C w' /\ R i w w' /\ G i v w') else G i undef w)
   (hQ:∀listed a w,RInv l C I G E F a0 listed a w->(∀k,k<l.length->(∀i,i<l.length->E i k=false)->Had l G k a w)->Q .normal a w):∀(fuel:Nat) (listed:Array Bool) (a:Act) (w:World),listed.size=l.length->listed.toList.count false=fuel->RInv l C I G E F a0 listed a w ->
   wpAny P .any l.toArray Q fuel listed a w:=by
 have hs' : l.toArray.size=l.length:=by simp
 intro fuel
 induction fuel with
 | zero=>
   intro listed a w hs hc h;have hall:∀j,j<l.length->listed.getD j true=true:=fun j hj=>by
     cases hh:listed.getD j true with
     | true=>rfl
     | false=>
       have hlt:j<listed.size:=by omega
       have:false∈listed.toList:=by
         have e:listed[j]=false:=by simpa [hlt] using hh
         rw [<-e];exact Array.getElem_mem_toList hlt
       have:=List.count_pos_iff.2 this;omega
   refine ⟨?_,hQ listed a w h (fun k hk he=>h.had k hk ?_ (fun i hi=>?_))⟩
   · unfold Region.ready
     rw [List.filter_eq_nil_iff];intro i hi;have hi:=List.mem_range.1 hi;rw [hall i (by simpa using hi)];simp
   · have:=hall k hk
     have hlt:k<listed.size:=by omega
     simp [hlt] at this ⊢;exact this
   · by_cases hlt:i<l.length
     · rw [he i hlt] at hi;cases hi
     · have:listed.size<=i:=by omega
       simp [Array.getElem?_eq_none this]
 | succ fuel ih=>
   intro listed a w hs hc h;obtain ⟨j,hj,hun⟩:∃j,j<l.length/\listed.getD j true=false:=by
     have:false∈listed.toList:=List.count_pos_iff.1 (by omega);obtain ⟨j,hj,he⟩:=List.getElem_of_mem this;have hj' : j<listed.size:=by simpa using hj
     exact ⟨j,by omega,by simp [hj'];simpa using he⟩
   have hne:=ready_someC (ops:=l.toArray) (by omega) hb j (by omega) hun;refine ⟨fun h0=>absurd h0 hne,fun i hi=>?_⟩;obtain ⟨hli,o,ho,hafter⟩:=mem_ready.1 hi;have ho' : l[i]?=some o:=by simpa using ho
   have hil:=(List.getElem?_eq_some_iff.1 ho').1;have hlt:i<listed.size:=by omega
   have hget:listed.toList[i]?=some false:=by
     have e:listed[i]=false:=by simpa [hlt] using hli
     simp [hlt,e]
   have hset:(listed.setIfInBounds i true).size=l.length:=by simpa using hs
   have hcnt:(listed.setIfInBounds i true).toList.count false=fuel:=by
     have:=Fp listed.toList i hget;simp only [Array.toList_setIfInBounds];omega
   have hui:listed.getD i false=false:=by simp [hlt] at hli ⊢;exact hli
   have hno:∀k,k=i\/Ct l 9 k i=true->listed.getD k false=false:=fun k hk=>by
     rcases hk with e | e
     · subst e;exact hui
     · cases hh:listed.getD k false with
       | false=>rfl
       | true=>have:=h.waits 9 k e hh;rw [hui] at this;cases this
   have hv:=hvc i o ho' a w ⟨h.c,h.size,fun t ht=>h.rest t fun k ok hk hd=>hno k (ht k ok hk hd),fun e he hbd hE=>h.had e.on (by have:=(back_atC hb ho).1 e he hbd;omega) (hafter e he hbd) (fun j hj=>by
     have:=hE j hj;subst this;exact hui),fun q hF=>h.init q fun j hj=>hno j (hF j hj)⟩
   unfold wpOp;rw [ho];dsimp only;split
   · rename_i hw
     rw [if_pos hw] at hv;exact .inl (wp_of_givesZ hv (fun c w1 hz=>hZ c a w1 h.defers hz) fun v w' ⟨h1,h2,h3⟩=>ih _ _ _ hset hcnt (h.step hn hsz ho' hs hli h1 hafter (fun k u hk hek hu=>hst i k u w w' hk hek hu h2) (fun q hf hi=>hin q i w w' hf hi h2) h3))
   · rename_i hw
     rw [if_neg hw] at hv;exact ih _ _ _ hset hcnt (h.step hn hsz ho' hs hli h.c hafter (fun k u _ _ hu=>hu) (fun _ _ hi=>hi) hv)
theorem rely_frame {l:List Oper} {C:World->Prop} {I:Bool->World->Prop} {F:Bool->Nat->Bool} {G:Nat->Value->World->Prop} {E:Nat->Nat->Bool} {a0:Act} {listed:Array Bool} {a:Act} {w:World} (hn:(l.filterMap (·.dst)).Nodup) (hsz:∀d∈l.filterMap (·.dst),d<a0.tmps.size) (h:RInv l C I G E F a0 listed a w)
   (hall:∀k,k<l.length->(∀i,i<l.length->E i k=false)->Had l G k a w):∃vs:Nat->Value,a=putFrom l 0 vs a0/\∀k,k<l.length->(∀i,i<l.length->E i k=false)->G k (vs k) w:=by
 have key:∃vs:Nat->Value,∀k,k<l.length->((∀i,i<l.length->E i k=false)->G k (vs k) w)/\∀o d,l[k]?=some o->o.dst=some d->a.tmps.getD d undef=vs k:=by
   have pt:∀k,∃v,k<l.length->((∀i,i<l.length->E i k=false)->G k v w)/\∀o d,l[k]?=some o->o.dst=some d->a.tmps.getD d undef=v:=by
     intro k;by_cases hk:k<l.length
     · by_cases he:∀i,i<l.length->E i k=false
       · obtain ⟨v,h1,h2⟩:=hall k hk he
         exact ⟨v,fun _=>⟨fun _=>h1,h2⟩⟩
       · cases hd:(l[k]).dst with
         | none=>exact ⟨undef,fun _=>⟨fun h=>absurd h he,fun o d ho hdd=>by rw [List.getElem?_eq_getElem hk] at ho;cases ho;rw [hd] at hdd;cases hdd⟩⟩
         | some d=>exact ⟨a.tmps.getD d undef,fun _=>⟨fun h=>absurd h he,fun o d' ho hdd=>by rw [List.getElem?_eq_getElem hk] at ho;cases ho;rw [hd] at hdd;cases hdd;rfl⟩⟩
     · exact ⟨undef,fun h=>absurd h hk⟩
   exact ⟨fun k=>Classical.choose (pt k),fun k hk=>Classical.choose_spec (pt k) hk⟩
 obtain ⟨vs,hvs⟩:=key
 refine ⟨vs,?_,fun k hk he=>(hvs k hk).1 he⟩
 have e1:a.tmps=(putFrom l 0 vs a0).tmps:=by
   apply Array.ext
   · rw [h.size,putFrom_size]
   · intro t h1 h2
     have g1:a.tmps[t]=a.tmps.getD t undef:=by simp [h1]
     have g2:(putFrom l 0 vs a0).tmps[t]=(putFrom l 0 vs a0).tmps.getD t undef:=by simp [h2]
     rw [g1,g2];by_cases hx:∃(k:Nat) (o:Oper),l[k]?=some o/\o.dst=some t
     · obtain ⟨k,o,ho,hdt⟩:=hx
       rw [(hvs k (List.getElem?_eq_some_iff.1 ho).1).2 o t ho hdt,putFrom_at l 0 vs a0 hn hsz k o t ho hdt,Nat.zero_add]
     · have hno:∀o∈l,o.dst≠some t:=fun o hom e=>by
         obtain ⟨k,hk,rfl⟩:=List.getElem_of_mem hom;exact hx ⟨k,l[k],by simp [hk],e⟩
       rw [h.rest t (fun k o ho hd=>absurd hd (hno o (List.mem_of_getElem? ho))),putFrom_rest l 0 vs a0 t hno]
 have e2:=h.defers
 have e3:=putFrom_defers l 0 vs a0
 cases a;cases hp:putFrom l 0 vs a0
 rw [hp] at e1 e3
 simp only at e1 e2 e3
 subst e1;simp only [Act.mk.injEq,true_and];rw [e2,e3]
def VC (P:Program) (Z:List PanicEntry->World->Prop) (l:List Oper) (C:World->Prop) (I:Bool->World->Prop) (R:Nat->World->World->Prop) (G:Nat->Value->World->Prop) (E:Nat->Nat->Bool) (F:Bool->Nat->Bool) (a0:Act) (i:Nat) (o:Oper):Prop:=
 ∀a w,Finds l C I G E F a0 i o a w->if Region.wanted o (yielded l.toArray a.tmps) then D0 P Z o a w (fun v w' => C w' /\ R i w w' /\ G i v w') else G i undef w
def VCs (P:Program) (Z:List PanicEntry->World->Prop) (l:List Oper) (C:World->Prop) (I:Bool->World->Prop) (R:Nat->World->World->Prop) (G:Nat->Value->World->Prop) (E:Nat->Nat->Bool) (F:Bool->Nat->Bool) (a0:Act):List Oper->Nat->Prop
 | [],_=>True
 | o :: r,i=>VC P Z l C I R G E F a0 i o/\VCs P Z l C I R G E F a0 r (i+1)
theorem VCs.at {P:Program} {Z:List PanicEntry->World->Prop} {l:List Oper} {C:World->Prop} {I:Bool->World->Prop} {F:Bool->Nat->Bool} {R:Nat->World->World->Prop} {G:Nat->Value->World->Prop} {E:Nat->Nat->Bool} {a0:Act}:∀{r:List Oper} {j:Nat},VCs P Z l C I R G E F a0 r j->∀(i:Nat) (o:Oper),r[i]?=some o->VC P Z l C I R G E F a0 (j+i) o
 | [],_,_,i,o,h=>by simp at h
 | o' :: r,j,h,i,o,ho=>by
   rcases i with _ | i
   · simp at ho;subst ho;exact h.1
   · have:=h.2.at i o (by simpa using ho)
     rw [show j+(i+1)=j+1+i by omega];exact this
theorem VC.plain {P:Program} {Z:List PanicEntry->World->Prop} {l:List Oper} {C:World->Prop} {I:Bool->World->Prop} {F:Bool->Nat->Bool} {R:Nat->World->World->Prop} {G:Nat->Value->World->Prop} {E:Nat->Nat->Bool} {a0:Act} {i:Nat} {o:Oper} (hg:o.guard=none) (h:∀a w,Finds l C I G E F a0 i o a w->D0 P Z o a w (fun v w' => C w' /\ R i w w' /\ G i v w')):VC P Z l C I R G E F a0 i o:=fun a w hf=>by
 rw [if_pos (by unfold Region.wanted;rw [hg])];exact h a w hf
theorem wp_region_rely {P:Program} {id:Nat} {l:List Oper} {Q:Exit->Act->World->Prop} {a0:Act} {w:World} (Z:List PanicEntry->World->Prop) (hZ:∀c a w,a.defers=a0.defers->Z c w->Q (.panic c) a w) (C:World->Prop) (I:Bool->World->Prop) (R:Nat->World->World->Prop) (G:Nat->Value->World->Prop) (E:Nat->Nat->Bool) (F:Bool->Nat->Bool) (hm:P.follows .mixedOrders=true) (hb:backC l.toArray=true) (hd:dstsB l a0.tmps.size=true)
   (hC:C w.drew) (hI:∀q,I q w.drew) (hst:∀i k u w w', k≠i->exB l E i k=false->G k u w->R i w w' -> G k u w') (hin:∀q i w w', F q i=false->I q w->R i w w' -> I q w') (hvc:VCs P Z l C I R G E F a0 l 0)
   (hQ:∀(vs:Nat->Value) w,C w->(∀k,k<l.length->(∀i,i<l.length->E i k=false)->G k (vs k) w)->Q .normal (putFrom l 0 vs a0) w):(Code.region id l.toArray true).wp P Q a0 w:=by
 simp only [dstsB,Bool.and_eq_true,decide_eq_true_eq] at hd
 have hsz:∀d∈l.filterMap (·.dst),d<a0.tmps.size:=fun d hdm=>by simpa using List.all_eq_true.1 hd.1 d hdm
 refine wp_region_any hm ?_
 have:=wpAny_rely (P:=P) (l:=l) (C:=C) (I:=I) (F:=F) (R:=R) (G:=G) (E:=E) (a0:=a0) (Q:=Q) (Z:=Z) hZ hb hd.2 hsz hst hin (fun i o ho=>by have:=hvc.at i o ho;rw [Nat.zero_add] at this;exact this) (fun listed a w h hall=>?_) l.length (Array.replicate l.length false) a0 w.drew (by simp) (by simp)
   ⟨hC,rfl,rfl,fun _ _=>rfl,fun k hk h=>by simp [hk] at h,fun q _=>hI q,fun k o ho h=>by have:=(List.getElem?_eq_some_iff.1 ho).1;simp [this] at h⟩
 · simpa using this
 · obtain ⟨vs,e,hG⟩:=rely_frame hd.2 hsz h hall
   rw [e];exact hQ vs w h.c hG
theorem Finds.old {l:List Oper} {C:World->Prop} {I:Bool->World->Prop} {F:Bool->Nat->Bool} {G:Nat->Value->World->Prop} {E:Nat->Nat->Bool} {a0:Act} {i:Nat} {o:Oper} {a:Act} {w:World} (h:Finds l C I G E F a0 i o a w) (t:Nat) (hl:(List.range l.length).all (fun k=>match l[k]? with | some o=>!(o.dst == some t) || decide (k=i) || Ct l 9 k i | none=>true)=true):a.eval (.tmp t)=a0.tmps.getD t undef:=
 h.rest t fun k o ho e=>by
   have:=List.all_eq_true.1 hl k (List.mem_range.2 (List.getElem?_eq_some_iff.1 ho).1);rw [ho] at this;simpa [e] using this
theorem Finds.start {l:List Oper} {C:World->Prop} {I:Bool->World->Prop} {ps:Bool->List Nat} {G:Nat->Value->World->Prop} {E:Nat->Nat->Bool} {a0:Act} {i:Nat} {o:Oper} {a:Act} {w:World} (h:Finds l C I G E (fun q=>isIn (ps q)) a0 i o a w) (q:Bool) (hb:(ps q).all (fun j=>decide (j=i) || Ct l 9 j i)=true):I q w:=
 h.init q fun j hj=>by
   have:=List.all_eq_true.1 hb j (by simpa [isIn] using hj);simpa using this
theorem Finds.got {l:List Oper} {C:World->Prop} {I:Bool->World->Prop} {F:Bool->Nat->Bool} {G:Nat->Value->World->Prop} {E:Nat->Nat->Bool} {a0:Act} {i:Nat} {o:Oper} {a:Act} {w:World} (h:Finds l C I G E F a0 i o a w) (k:Nat) {ok:Oper} {d:Tmp}
   (hk:o.after.any (fun e=>decide (e.on=k) && Region.binds .any e)=true) (hE:∀j,E j k=true->j=i) (hok:l[k]?=some ok) (hd:ok.dst=some d):∃v,G k v w/\a.eval (.tmp d)=v:=by
 obtain ⟨e,he,h1⟩:=Array.any_eq_true'.1 hk
 simp only [Bool.and_eq_true,decide_eq_true_eq] at h1
 obtain ⟨h1,h2⟩:=h1
 subst h1
 exact (h.had e he h2 hE).val hok hd
end Go.Proofs.YtagkgfniihiinaaGreatDoor.R2.R3
namespace Go.Proofs.YtagkgfniihiinaaGreatDoor
open Go.RowKit
def VAt (rp:Rp) (w0:World) (g b o n cap:Nat) (s:ByteArray) (at2:Nat) (out:Out (V × Nat × Nat)) (wr:World) (v:Value) (w:World):Prop:=
 ∃(x:V) (u m:Nat) (a:Option Addr) (ca:Nat),out=.got (x,u,m)/\v=.agg #[.int .i64 x.kind,.string x.text,.int .i64 x.int,.float .f64 x.real,.bool x.flag,.slice a x.list.length ca] /\
   RV (A5 wr.heap.size w) (An x.kind x.text x.int x.real x.flag a x.list.length ca) x/\Fr (fun k=>k=g) wr w/\RS rp w0 w g b o n cap s (at2+u) m
def VSl (rp:Rp) (w0:World) (g b o n cap:Nat) (s:ByteArray) (at2:Nat) (out:Out (V × Nat × Nat)) (wr:World) (v:Value) (w:World):Prop:=
 ∃(x:V) (u m:Nat) (a:Option Addr) (ca bl:Nat),out=.got (x,u,m)/\v=.slice (some ⟨bl,0,none⟩) 1 1/\w.heap[bl]?=some (.cells #[.int .i64 x.kind,.string x.text,.int .i64 x.int,.float .f64 x.real,.bool x.flag,.slice a x.list.length ca] 26 (0,0)) /\
   RV (A5 wr.heap.size w) (An x.kind x.text x.int x.real x.flag a x.list.length ca) x/\Fr (fun k=>k=g) wr w/\RS rp w0 w g b o n cap s (at2+u) m
def VAp (rp:Rp) (w0:World) (g b o n cap:Nat) (s:ByteArray) (at2:Nat) (out:Out (V × Nat × Nat)) (wr:World) (B:Nat) (lv:Value) (css:List (List Value)) (lj:List V) (v:Value) (w:World):Prop:=
 ∃(x:V) (u m:Nat) (cs:List Value),out=.got (x,u,m)/\w.ownsRow B 26 6 v (lj.length+1) (css++[cs]).flatten/\RVs (nf B v.ownBlock w) (css++[cs]) (lj++[x]) /\
   Fr (fun k=>k=g\/lv.ownBlock=some k) wr w/\RS rp w0 w g b o n cap s (at2+u) m
def lqR (g:Nat) (i:Nat) (w w' : World):Prop:=match i with
 | 5=>Fr (fun k=>k=g) w w'
 | 6=>Below w.heap.size w w'
 | 7=>True
 | 9=>True
 | _=>w' = w
def LI (g:Nat) (wr:World) (q:Bool) (w:World):Prop:=match q with
 | true=>w=wr.drew
 | false=>Fr (fun k=>k=g) wr w
def LF (q:Bool):List Nat:=match q with
 | true=>[5,6,7,9]
 | false=>[7,9]
theorem nf_fr {B g:Nat} {own:Option Nat} {w w' : World} (hf:Fr (fun k=>k=g) w w') (hg:g<B):∀a u,nf B own w a=some u->nf B own w' a=some u:=fun a u h=>by
 obtain ⟨h1,h2,h3⟩:=Gl h;exact nf_mk (hf.cell h1 (fun e=>by omega)) h2 h3
theorem RS.fr {rp:Rp} {w0 w w' : World} {g b o n cap at_ many:Nat} {s:ByteArray} (h:RS rp w0 w g b o n cap s at_ many) {S:Nat->Prop} (hf:Fr S w w') (hg:¬S g) (hb:¬S b) (hS:∀i,S i->w0.heap.size<=i):RS rp w0 w' g b o n cap s at_ many:=
 ⟨h.scan.fr hf hg hb,h.env,h.below.trans (hf.below h.below.size (fun i hi e=>by have:=hS i e;omega)),h.base,h.le⟩
theorem reads_blockR {w:World} {b size:Nat} {us:Array Value} {t:TypeId} (h:w.heap[b]?=some (.cells us t (0,0))) (hs:us.size=size):Reads w size (.slice (some ⟨b,0,none⟩) 1 1) 1 us.toList:=
 ⟨_,_,rfl,by simp [hs],fun j u hj=>⟨b,0,rfl,by simp [World.cell?,h];simpa using hj⟩⟩
theorem ls_next {rp:Rp} {w0 w wr w6:World} {g b o n cap:Nat} {s:ByteArray} {kk:Int} {at_ uj mj:Nat} {a3 a31:Option Addr} {c3 c31:Nat} {css:List (List Value)} {lj:List V} {f:Nat->List UInt8->Out (V × Nat × Nat)} {x:V} {u1 m:Nat} {cs:List Value}
   (hls:LS rp w0 w wr g b o n cap s kk at_ uj mj (.slice a3 lj.length c3) css lj) (hfm:Hid (∀(m:Nat) (L:List UInt8) (v:V) (u m' : Nat),m<=1000->f m L=.got (v,u,m')->m' <= 1000)) (hg5:¬w.heap.size+1=g) (hgw:g<w.heap.size) (hbw:b<w.heap.size)
   (g1:f mj (s.data.toList.drop (at_+uj))=.got (x,u1,m)) (g2:w6.ownsRow (w.heap.size+2) 26 6 (.slice a31 (lj.length+1) c31) (lj.length+1) (css++[cs]).flatten) (g3:RVs (nf (w.heap.size+2) (Value.slice a31 (lj.length+1) c31).ownBlock w6) (css++[cs]) (lj++[x]))
   (g4:Fr (fun k=>k=g\/(Value.slice a3 lj.length c3).ownBlock=some k) wr w6) (g5:RS rp w0 w6 g b o n cap s (at_+uj+u1) m) :
   LS rp w0 w (w6.setCell ⟨w.heap.size+1,5,none⟩ (.slice a31 (lj.length+1) c31)) g b o n cap s kk at_ (uj+u1) m (.slice a31 (lj.length+1) c31) (css++[cs]) (lj++[x]):=by
 have hl1:(lj++[x]).length=lj.length+1:=by simp
 have hfs:Fr (fun k=>k=w.heap.size+1) w6 (w6.setCell ⟨w.heap.size+1,5,none⟩ (.slice a31 (lj.length+1) c31)):=Fr.setCell (S:=fun k=>k=w.heap.size+1) (Fr.refl _ _) (fun _=>rfl) _
 have hob:∀k,(Value.slice a3 lj.length c3).ownBlock=some k->w.heap.size+2<=k:=fun k hk=>(Au hls.own k hk).1
 have hn1:¬(w.heap.size+1=g\/(Value.slice a3 lj.length c3).ownBlock=some (w.heap.size+1)):=fun e=>by
   rcases e with e | e
   · omega
   · have:=hob _ e;omega
 have hn0:¬(w.heap.size=g\/(Value.slice a3 lj.length c3).ownBlock=some w.heap.size):=fun e=>by
   rcases e with e | e
   · omega
   · have:=hob _ e;omega
 have hb1:=hls.blk1.fr g4 hn1
 have k1:∀j u,wr.cell? ⟨w.heap.size+1,j,none⟩=some u->j≠5->(w6.setCell ⟨w.heap.size+1,5,none⟩ (.slice a31 (lj.length+1) c31)).cell? ⟨w.heap.size+1,j,none⟩=some u:=fun j u hu hj=>by
   rw [Ad (fun e=>hj (congrArg Addr.off e).symm)];exact g4.cell hu hn1
 refine ⟨?_,hfm.out mj _ x u1 m hls.many g1,?_,g3.mono (nf_fr hfs (by omega)),?_,?_,(hls.blk.fr g4 hn0).setCell _ _,hb1.setCell _ _,?_,?_⟩
 · rw [<-Nat.add_assoc]
   exact g5.fr hfs (fun e=>hg5 e.symm) (fun e=>by omega) (fun i e=>by have:=hls.rs.base;omega)
 · rw [hl1]
   exact Et g2 hfs (fun k hk e=>by have:=(Au g2 k hk).1;omega)
 · refine range6 (k1 _ _ (by simpa using hls.full 0 _ rfl) (by omega)) (k1 _ _ (by simpa using hls.full 1 _ rfl) (by omega)) (k1 _ _ (by simpa using hls.full 2 _ rfl) (by omega)) (k1 _ _ (by simpa using hls.full 3 _ rfl) (by omega)) (k1 _ _ (by simpa using hls.full 4 _ rfl) (by omega)) ?_
   exact Am (g4.cell (p:=⟨w.heap.size+1,5,none⟩) (hls.full 5 _ rfl) hn1)
 · intro q u hq
   exact hfs.cell (g4.cell (hls.zero q u hq) hn0) (by show ¬w.heap.size=w.heap.size+1;omega)
 · refine hls.fr.trans_new (Fr.trans (g4.mono (fun _ _ e=>Or.inl e)) (hfs.mono (fun _ _ e=>Or.inr e)):Fr (fun k=>(k=g\/(Value.slice a3 lj.length c3).ownBlock=some k)\/k=w.heap.size+1) wr _) (fun i hi e=>?_)
   rcases e with (e | e) | e
   · exact e
   · have:=hob _ e;omega
   · omega
 · have:=hfs.size;have:=g4.size;have:=hls.size;omega
def LZ (y0:World) (g:Nat) (f:Nat->List UInt8->Out (V × Nat × Nat)) (res:Out (List V × Nat × Nat)) (mj:Nat) (L:List UInt8) (c:List PanicEntry) (w:World):Prop:=
 ∃q,f mj L=.stop q/\Ending.panicked c=B1 q/\Fr (fun k=>k=g) y0 w
def ListQ (rp:Rp) (w0:World) (g b o n cap:Nat) (s:ByteArray) (kk:Int) (at_:Nat) (res:Out (List V × Nat × Nat)) (w:World) (e:Ending) (w' : World):Prop:=
 match res with
 | .stop q=>e=B1 q/\Fr (fun k=>k=g) w w'
 | .got (l,u,m)=>∃(a:Option Addr) (ca:Nat),e=.returned (.agg #[.int .i64 kk,.string ⟨#[]⟩,.int .i64 0,.float .f64 0,.bool false,.slice a l.length ca]) /\
     RV (A5 w.heap.size w') (An kk ⟨#[]⟩ 0 0 false a l.length ca) (.mk kk ⟨#[]⟩ 0 0 false l)/\Fr (fun k=>k=g) w w' /\ RS rp w0 w' g b o n cap s (at_+u) m
theorem E7 {B x:Nat} {w w' : World} (hf:Fr (fun k=>k=x) w w') (hx:x<B:=by omega):∀a u,A5 B w a=some u->A5 x w' a=some u:=fun a u h=>by
 obtain ⟨h1,h2⟩:=Cw h;unfold A5;rw [if_neg (by omega)];exact hf.cell h1 (fun e=>by omega)
namespace R2.R3
set_option maxRecDepth 100000 in
set_option maxHeartbeats 6400000 in
theorem list_any {rp:Rp} {w0 y0:World} {g b o n cap at_ many len:Nat} {s:ByteArray} {d kk:Int} {need:Nat->List UInt8->Prop} {f:Nat->List UInt8->Out (V × Nat × Nat)} (h:RS rp w0 y0 g b o n cap s at_ many) (hbw0:b<y0.heap.size) (hm:many+len<=1000) (hd0:0<=d) (hd:d<8) (hk:¬(kk=14/\(len=0\/0<d)))
   (hval:∀(W:World) (at2 m2:Nat),RS rp w0 W g b o n cap s at2 m2->m2<=1000->need m2 (s.data.toList.drop at2)->Calls Tryz.prog 46 #[.pointer (some ⟨g,0,none⟩),.int .i64 (d+1)] W (ValQ rp w0 g b o n cap s at2 (f m2 (s.data.toList.drop at2)) W))
   (hfm:∀(m:Nat) (L:List UInt8) (v:V) (u m' : Nat),m<=1000->f m L=.got (v,u,m')->m' <= 1000)
   (hnd:needN need f len (many+len) (s.data.toList.drop at_)) :
   Calls Tryz.prog 70 #[.pointer (some ⟨g,0,none⟩),.int .i64 kk,.int .i64 (len:Int),.int .i64 d] y0 (ListQ rp w0 g b o n cap s kk at_ (Ba f len (many+len) (s.data.toList.drop at_)) y0):=by
 obtain ⟨W1,hW1⟩:∃W1,W1=(y0.alloc (.cells #[.int .i64 0,.string ⟨#[]⟩,.int .i64 0,.float .f64 0,.bool false,.slice none 0 0] 26)).alloc (.cells #[.int .i64 kk,.string ⟨#[]⟩,.int .i64 0,.float .f64 0,.bool false,.slice none 0 0] 26):=⟨_,rfl⟩
 have hT:=Two.start y0 kk ⟨#[]⟩ 0 0 false
 rw [<-hW1] at hT
 have hs1:W1.heap.size=y0.heap.size+2:=by rw [hW1];simp
 have h1:=h.grow hT.below
 have c2:=h1.scan.c2
 have fz:=h1.scan.blk.frz 2 none
 have hgw:g<y0.heap.size:=h.scan.blk.lt
 have y1:¬(1000:Int)<(many:Int)+(len:Int):=by omega
 have y2:¬8<=d:=by omega
 have hlinks:=Links.start (f:=f) (D:=s.data.toList) (at_:=at_) (n:=len) (m:=many+len) hnd
 clear hnd
 obtain ⟨res,hres⟩:∃res,res=Ba f len (many+len) (s.data.toList.drop at_):=⟨_,rfl⟩
 rw [<-hres] at hlinks ⊢
 have hf2:Fr (fun k=>k=g) y0 (W1.setCell ⟨g,2,none⟩ (.int .i64 ((many:Int)+(len:Int)))):=Fr.setCell (S:=fun k=>k=g) (Ai hT.below) (fun _=>rfl) _
 have hLS:LS rp w0 y0 (W1.setCell ⟨g,2,none⟩ (.int .i64 ((many:Int)+(len:Int)))) g b o n cap s kk at_ 0 (many+len) (.slice none 0 0) [] []:=by
   have hfr1:Fr (fun k=>k=g) W1 (W1.setCell ⟨g,2,none⟩ (.int .i64 ((many:Int)+(len:Int)))):=Fr.setCell (S:=fun k=>k=g) (Fr.refl _ _) (fun _=>rfl) _;refine ⟨?_,hm,World.ownsRow_nil _ _ _ _,RVs.nil _,fun q x hq=>hfr1.cell (hT.full q x hq) (by show ¬y0.heap.size+1=g;omega),fun q x hq=>hfr1.cell (hT.zero q x hq) (by show ¬y0.heap.size=g;omega),hT.blk.fr hfr1 (by omega),hT.blk1.fr hfr1 (by omega),hf2,?_⟩
   · have:=h1.scan.count (many+len)
     rw [show ((many+len:Nat):Int)=(many:Int)+(len:Int) by omega] at this;exact h1.next hfr1 (by simpa using this) (by simpa using h1.le)
   · have:=hfr1.size;omega
 generalize hW2:W1.setCell ⟨g,2,none⟩ (.int .i64 ((many:Int)+(len:Int)))=W2 at hLS hf2
 replace hW2:=Hd hW2
 replace hW1:=Hd hW1
 replace hT:=Hd hT
 replace h1:=Hd h1
 replace h:=Hd h
 replace hlinks:=Hd hlinks
 replace hres:=Hd hres
 replace hLS:=Hd hLS
 replace hval:=Hd hval
 replace hfm:=Hd hfm
 replace hf2:=Hd hf2
 clear hs1
 have hk3:(kk == 14)=false\/(kk == 14)=true/\((len:Int) == 0)=false/\¬0<d:=by
   by_cases h14:kk=14
   · right
     have:¬(len=0\/0<d):=fun hh=>hk ⟨h14,hh⟩;exact ⟨by simpa using h14,by simp;omega,by omega⟩
   · left;simpa using h14
 replace hk:=Hd hk
 have hcl:∀(x y z:Bool),((x=false)\/(y=false/\z=false))->(x && (y || z))=false:=by decide
 go_enter Tryz.func70,Tryz.ntmps70
 go_upto_region 2 with fail
 rw [<-hW1.out]
 rcases hk3 with hk3 | ⟨hk3,hk4,hk5⟩
 all_goals
   go_wp2_with fail
   rw [hW2.out]
   go_loopw [43] (fun i wr=>∃(j uj mj:Nat) (lj:List V) (lv:Value) (css:List (List Value)),j<=len/\i=.int .i64 j/\lj.length=j/\LS rp w0 y0 wr g b o n cap s kk at_ uj mj lv css lj/\Links need f res s.data.toList at_ (len - j) uj mj lj) (fun i _=>len - (intOf i).toNat)
   case atStart=>exact ⟨0,0,many+len,[],_,[],Nat.zero_le _,rfl,rfl,hLS.out,hlinks.out⟩
   case round=>
     obtain ⟨j,uj,mj,lj,lv,css,hj,rfl,hlj,hls,hlk⟩:=hrel;have hgw2:g<y0.heap.size:=hgw;by_cases hlt:j<len
     · obtain ⟨a3,c3,rfl⟩:=(Reads.of_owns hls.own).shape
       obtain ⟨lft,hlf⟩:∃lft,len - j=lft+1:=⟨len - j - 1,by omega⟩;rw [hlf] at hlk;have hlti:(j:Int)<(len:Int):=by omega
       have hw1:IntKind.i64.wrap (d+1)=d+1:=IntWalk.i64_in _ (by omega);have hw2:IntKind.i64.wrap ((j:Int)+1)=((j+1:Nat):Int):=by rw [IntWalk.i64_in _ (by omega)];rfl
       have hlm:=hls.many;have hg5:¬y0.heap.size+1=g:=by omega
       replace hls:=Hd hls;replace hlk:=Hd hlk;go_upto_region 7 with fail
       refine wp_region_rely (l:=[_,_,_,_,_,_,_,_,_,_]) (LZ y0 g f res mj (s.data.toList.drop (at_+uj))) ?_ (fun _=>True) (LI g wr) (lqR g) (fun kG_=>([fun v _=>v=.pointer (some ⟨y0.heap.size+1,5,none⟩),fun v _=>v=.slice a3 lj.length c3,fun v _=>v=.pointer (some ⟨g,0,none⟩),fun v _=>v=.int .i64 d,fun v _=>v=.int .i64 (d+1),fun v w=>VAt rp w0 g b o n cap s (at_+uj) (f mj (s.data.toList.drop (at_+uj))) wr v w,fun v w=>VSl rp w0 g b o n cap s (at_+uj) (f mj (s.data.toList.drop (at_+uj))) wr v w,fun v w=>VAp rp w0 g b o n cap s (at_+uj) (f mj (s.data.toList.drop (at_+uj))) wr (y0.heap.size+2) (.slice a3 lj.length c3) css lj v w,fun v _=>v=.pointer (some ⟨y0.heap.size+1,5,none⟩),fun v w=>∃(v1:Value) (w1:World),w=w1.setCell ⟨y0.heap.size+1,5,none⟩ v1/\VAp rp w0 g b o n cap s (at_+uj) (f mj (s.data.toList.drop (at_+uj))) wr (y0.heap.size+2) (.slice a3 lj.length c3) css lj v1 w1]:List (Value->World->Prop)).getD kG_ (fun _ _=>True)) (eats [(6,5),(7,6),(9,7)]) (fun q=>isIn (LF q)) (by kernel_rfl) (by kernel_rfl) (by kernel_rfl) trivial ?_ ?_ ?_ ?_ ?_
       · intro c aq x1 hd hz
         obtain ⟨q,h1,h2,h3⟩:=hz;show aq.defers=[]/\ListQ rp w0 g b o n cap s kk at_ res y0 (.panicked c) x1;refine ⟨hd,?_⟩;rw [hlk.out.stop h1];exact ⟨h2,h3⟩
       · intro q
         cases q
         · exact (Fr.refl _ _).drew
         · exact rfl
       · intro i kG_ u w w' hne hE hg hr
         rcases kG_ with _ | _ | _ | _ | _ | _ | _ | _ | _ | _ | kG_
         · exact hg
         · exact hg
         · exact hg
         · exact hg
         · exact hg
         · replace hg:(fun (v:Value) (w:World)=>VAt rp w0 g b o n cap s (at_+uj) (f mj (s.data.toList.drop (at_+uj))) wr v w) u w:=hg
           show (fun (v:Value) (w:World)=>VAt rp w0 g b o n cap s (at_+uj) (f mj (s.data.toList.drop (at_+uj))) wr v w) u w';dsimp only at hg ⊢;replace hE:exB _ _ i 5=false:=hE;replace hne:5≠i:=hne;unfold lqR at hr;split at hr
           all_goals first
             | exact absurd rfl hne
             | exact absurd (hE.symm.trans (by decide +kernel:exB _ _ _ _=true)) (by decide)
             | (subst hr;exact hg)
             | (fail)
         · replace hg:(fun (v:Value) (w:World)=>VSl rp w0 g b o n cap s (at_+uj) (f mj (s.data.toList.drop (at_+uj))) wr v w) u w:=hg
           show (fun (v:Value) (w:World)=>VSl rp w0 g b o n cap s (at_+uj) (f mj (s.data.toList.drop (at_+uj))) wr v w) u w';dsimp only at hg ⊢;replace hE:exB _ _ i 6=false:=hE;replace hne:6≠i:=hne;unfold lqR at hr;split at hr
           all_goals first
             | exact absurd rfl hne
             | exact absurd (hE.symm.trans (by decide +kernel:exB _ _ _ _=true)) (by decide)
             | (subst hr;exact hg)
             | (fail)
         · replace hg:(fun (v:Value) (w:World)=>VAp rp w0 g b o n cap s (at_+uj) (f mj (s.data.toList.drop (at_+uj))) wr (y0.heap.size+2) (.slice a3 lj.length c3) css lj v w) u w:=hg
           show (fun (v:Value) (w:World)=>VAp rp w0 g b o n cap s (at_+uj) (f mj (s.data.toList.drop (at_+uj))) wr (y0.heap.size+2) (.slice a3 lj.length c3) css lj v w) u w';dsimp only at hg ⊢;replace hE:exB _ _ i 7=false:=hE;replace hne:7≠i:=hne;unfold lqR at hr;split at hr
           all_goals first
             | exact absurd rfl hne
             | exact absurd (hE.symm.trans (by decide +kernel:exB _ _ _ _=true)) (by decide)
             | (subst hr;exact hg)
             | (fail)
         · exact hg
         · replace hg:(fun (v:Value) (w:World)=>∃(v1:Value) (w1:World),w=w1.setCell ⟨y0.heap.size+1,5,none⟩ v1/\VAp rp w0 g b o n cap s (at_+uj) (f mj (s.data.toList.drop (at_+uj))) wr (y0.heap.size+2) (.slice a3 lj.length c3) css lj v1 w1) u w:=hg
           show (fun (v:Value) (w:World)=>∃(v1:Value) (w1:World),w=w1.setCell ⟨y0.heap.size+1,5,none⟩ v1/\VAp rp w0 g b o n cap s (at_+uj) (f mj (s.data.toList.drop (at_+uj))) wr (y0.heap.size+2) (.slice a3 lj.length c3) css lj v1 w1) u w';dsimp only at hg ⊢;replace hE:exB _ _ i 9=false:=hE;replace hne:9≠i:=hne;unfold lqR at hr;split at hr
           all_goals first
             | exact absurd rfl hne
             | exact absurd (hE.symm.trans (by decide +kernel:exB _ _ _ _=true)) (by decide)
             | (subst hr;exact hg)
             | (fail)
         · trivial
       · intro q i x1 x2 hF hI hr
         unfold lqR at hr;split at hr
         · cases q
           · exact Fr.trans hI hr
           · exact absurd hF (by decide)
         · cases q
           · exact Fr.trans hI (Ai hr)
           · exact absurd hF (by decide)
         · cases q<;>exact absurd hF (by decide)
         · cases q<;>exact absurd hF (by decide)
         · subst hr;exact hI
       · refine ⟨?_,?_,?_,?_,?_,?_,?_,?_,?_,?_,trivial⟩
         · refine VC.plain rfl fun a wx hf=>?_
           have s9:=hf.old 9 (by first | rfl | kernel_rfl);have q9:=A8 s9;exact gives_value (by simp [go_sem,q9,hw1]) ⟨hf.c,rfl,rfl⟩
         · refine VC.plain rfl fun a wx hf=>?_
           obtain ⟨v45,g45,s45⟩:=hf.got 0 (by kernel_rfl) (by intro j hj;simp [eats] at hj) rfl rfl;replace s45:=s45.trans (show v45=.pointer (some ⟨y0.heap.size+1,5,none⟩) from g45);clear g45;have q45:=A8 s45;have hI:=hf.start false (by kernel_rfl);have hc5:=Fr.cell (p:=⟨y0.heap.size+1,5,none⟩) hI (hls.out.full 5 _ rfl) hg5;exact gives_value (by simp [go_sem,q45,hc5]) ⟨trivial,rfl,rfl⟩
         · refine VC.plain rfl fun a wx hf=>?_
           have s0:=hf.old 0 (by first | rfl | kernel_rfl);have q0:=A8 s0;exact gives_value (by simp [go_sem,q0,hw1]) ⟨hf.c,rfl,rfl⟩
         · refine VC.plain rfl fun a wx hf=>?_
           have s3:=hf.old 3 (by first | rfl | kernel_rfl);have q3:=A8 s3;exact gives_value (by simp [go_sem,q3,hw1]) ⟨hf.c,rfl,rfl⟩
         · refine VC.plain rfl fun a wx hf=>?_
           obtain ⟨v48,g48,s48⟩:=hf.got 3 (by kernel_rfl) (by intro j hj;simp [eats] at hj) rfl rfl;replace s48:=s48.trans (show v48=.int .i64 d from g48);clear g48;have q48:=A8 s48;exact gives_value (by simp [go_sem,q48,hw1]) ⟨hf.c,rfl,rfl⟩
         · refine VC.plain rfl fun a wx hf=>?_
           obtain ⟨v47,g47,s47⟩:=hf.got 2 (by kernel_rfl) (by intro j hj;simp [eats] at hj) rfl rfl;replace s47:=s47.trans (show v47=.pointer (some ⟨g,0,none⟩) from g47);clear g47;have q47:=A8 s47;obtain ⟨v49,g49,s49⟩:=hf.got 4 (by kernel_rfl) (by intro j hj;simp [eats] at hj) rfl rfl;replace s49:=s49.trans (show v49=.int .i64 (d+1) from g49);clear g49;have q49:=A8 s49;have hI:=hf.start true (by kernel_rfl);replace hI:wx=wr.drew:=hI;subst hI;refine gives_callZ (f:=46) (args:=#[.pointer (some ⟨g,0,none⟩),.int .i64 (d+1)]) (w' := wr.drew) (by simp [go_sem,q47,q49]) ?_;refine (hval.out wr.drew (at_+uj) mj (hls.out.rs.grow ((Below.refl _ _).drew)) hlm hlk.out.need).mono fun e x1 he=>?_;unfold ValQ at he;cases hfo:f mj (s.data.toList.drop (at_+uj)) with
           | stop q=>
             rw [hfo] at he;obtain ⟨he,hfr⟩:=he;have hfw:=Fr.trans hls.out.fr (Fr.trans ((Fr.refl (fun k=>k=g) wr).drew) hfr);exact .inr ⟨_,he,q,hfo,rfl,hfw⟩
           | got r=>
             obtain ⟨x,u1,m⟩:=r;rw [hfo] at he;obtain ⟨ad1,ca1,he,hrv,hfr,hrs⟩:=he;exact .inl ⟨_,he,trivial,hfr,x,u1,m,ad1,ca1,rfl,rfl,hrv,Fr.trans ((Fr.refl (fun k=>k=g) wr).drew) hfr,hrs⟩
         · refine VC.plain rfl fun a wx hf=>?_
           obtain ⟨v50,g50,s50⟩:=hf.got 5 (by kernel_rfl) (by intro j hj;simp [eats] at hj;omega) rfl rfl;have q50:=A8 s50;replace g50:(fun (v:Value) (w:World)=>VAt rp w0 g b o n cap s (at_+uj) (f mj (s.data.toList.drop (at_+uj))) wr v w) v50 wx:=g50;dsimp only at g50;obtain ⟨x,u1,m,ad1,ca1,g1,g2,g3,g4,g5⟩:=g50;subst g2;refine gives_value (u:=.slice (some ⟨wx.heap.size,0,none⟩) 1 1) (w' := wx.alloc (.cells #[.int .i64 x.kind,.string x.text,.int .i64 x.int,.float .f64 x.real,.bool x.flag,.slice ad1 x.list.length ca1] 26)) (by simp [go_sem,q50,Tryz.underlying24]) ⟨trivial,(Below.refl _ _).alloc (Nat.le_refl _) _,?_⟩;have hal:=(Below.refl wx.heap.size wx).alloc (Nat.le_refl _) (.cells #[.int .i64 x.kind,.string x.text,.int .i64 x.int,.float .f64 x.real,.bool x.flag,.slice ad1 x.list.length ca1] 26)
           exact ⟨x,u1,m,ad1,ca1,wx.heap.size,g1,rfl,(MapKept.heap_alloc wx _).1,g3.mono (D2 hal),Fr.trans g4 (Ai hal),g5.grow hal⟩
         · refine VC.plain rfl fun a wx hf=>?_
           obtain ⟨v46,g46,s46⟩:=hf.got 1 (by kernel_rfl) (by intro j hj;simp [eats] at hj) rfl rfl;replace s46:=s46.trans (show v46=.slice a3 lj.length c3 from g46);clear g46;have q46:=A8 s46;obtain ⟨v51,g51,s51⟩:=hf.got 6 (by kernel_rfl) (by intro j hj;simp [eats] at hj;omega) rfl rfl;have q51:=A8 s51;replace g51:(fun (v:Value) (w:World)=>VSl rp w0 g b o n cap s (at_+uj) (f mj (s.data.toList.drop (at_+uj))) wr v w) v51 wx:=g51;dsimp only at g51;obtain ⟨x,u1,m,ad1,ca1,bl,g1,rfl,g2,g3,g4,g5⟩:=g51;have hown1:=Et hls.out.own g4 (fun k hk hle=>by have:=(Au hls.out.own k hk).1;omega);have hvs1:RVs (nf (y0.heap.size+2) (Value.slice a3 lj.length c3).ownBlock wx) css lj:=hls.out.vals.mono (nf_fr g4 (by omega))
           have hx1:RV (nf (y0.heap.size+2) (Value.slice a3 lj.length c3).ownBlock wx) (An x.kind x.text x.int x.real x.flag ad1 x.list.length ca1) x:=g3.mono (E4 hls.out.size (fun k hk=>(Au hls.out.own k hk).2));have hll:=hlj.symm;refine givesZ_of (Go.Proofs.YtagkgfniihiinaaGreatDoor.gives_append rfl eVal s46 hown1 s51 (reads_blockR g2 rfl) (fun h=>by cases h) (by simp [Value.oneCell']) (by omega) (by have:=g4.size;have:=hls.out.size;omega) (fun v' w' h1 h2 h3=>?_));refine ⟨trivial,trivial,x,u1,m,An x.kind x.text x.int x.real x.flag ad1 x.list.length ca1,g1,?_,((hvs1.snoc hx1).mono (nf_append h2 h3)),?_,g5.fr h2 ?_ ?_ ?_⟩
           · rw [List.flatten_append];simpa [An] using h1
           · exact Fr.trans (g4.mono (fun _ _ h=>Or.inl h)) (h2.mono (fun _ _ h=>Or.inr h))
           · intro e;have:=(Au hls.out.own g e).1;omega
           · intro e;have:=(Au hls.out.own b e).1;omega
           · intro i e;have:=(Au hls.out.own i e).1;have:=g5.base;omega
         · refine VC.plain rfl fun a wx hf=>?_
           have s9:=hf.old 9 (by first | rfl | kernel_rfl);have q9:=A8 s9;exact gives_value (by simp [go_sem,q9,hw1]) ⟨hf.c,rfl,rfl⟩
         · refine VC.plain rfl fun a wx hf=>?_
           obtain ⟨v53,g53,s53⟩:=hf.got 8 (by kernel_rfl) (by intro j hj;simp [eats] at hj) rfl rfl;replace s53:=s53.trans (show v53=.pointer (some ⟨y0.heap.size+1,5,none⟩) from g53);clear g53;have q53:=A8 s53;obtain ⟨v52,g52,s52⟩:=hf.got 7 (by kernel_rfl) (by intro j hj;simp [eats] at hj;omega) rfl rfl;have q52:=A8 s52;replace g52:(fun (v:Value) (w:World)=>VAp rp w0 g b o n cap s (at_+uj) (f mj (s.data.toList.drop (at_+uj))) wr (y0.heap.size+2) (.slice a3 lj.length c3) css lj v w) v52 wx:=g52;dsimp only at g52;have h1:=g52;obtain ⟨x,u1,m,cs,g1,g2,g3,g4,g5⟩:=g52;obtain ⟨a31,c31,rfl⟩:=(Reads.of_owns g2).shape;have hne:¬(y0.heap.size+1=g\/(Value.slice a3 lj.length c3).ownBlock=some (y0.heap.size+1)):=fun e=>by
             rcases e with e | e
             · omega
             · have:=(Au hls.out.own _ e).1;omega
           have hc5:=Fr.cell (p:=⟨y0.heap.size+1,5,none⟩) g4 (hls.out.full 5 _ rfl) hne;exact gives_skip (w' := wx.setCell ⟨y0.heap.size+1,5,none⟩ _) (by simp [go_sem,q53,q52,hc5,(hls.out.blk1.fr g4 hne).frz 5 none]) ⟨trivial,trivial,_,wx,rfl,h1⟩
       · intro vs w5 _ hG
         obtain ⟨v1,w6,e,hx⟩:=hG 9 (by decide) (by decide);clear hG;subst e;obtain ⟨x,u1,m,cs,g1,g2,g3,g4,g5⟩:=hx;obtain ⟨a31,c31,rfl⟩:=(Reads.of_owns g2).shape;have hnx:=ls_next hls.out hfm hg5 hgw2 hbw0 g1 g2 g3 g4 g5;have hlk2:=hlk.out.next g1;rw [show lft=len - (j+1) by omega] at hlk2;obtain ⟨W9,hW9⟩:∃W9,W9=w6.setCell ⟨y0.heap.size+1,5,none⟩ (.slice a31 (lj.length+1) c31):=⟨_,rfl⟩;rw [<-hW9] at hnx ⊢;replace hW9:=Hd hW9;replace hnx:=Hd hnx;replace hlk2:=Hd hlk2;clear g1 g2 g3 g4 g5;simp only [putFrom,Act.put,List.setIfInBounds_toArray,List.set_cons_zero,List.set_cons_succ];go_wp2_with fail
         go_roundw
         case rel=>exact ⟨j+1,uj+u1,m,lj++[x],_,css++[cs],by omega,by first | rfl | go_num,by simp [hlj],hnx.out,hlk2.out⟩
         case measure=>simp [intOf];omega
     · have hlti:¬(j:Int)<(len:Int):=by omega
       have hje:len - j=0:=by omega
       rw [hje] at hlk;have hre:=hlk.last;have hre2:=Hd hre;obtain ⟨a3,c3,rfl⟩:=(Reads.of_owns hls.own).shape;have hrv:=RV.of_row (v:=.mk kk ⟨#[]⟩ 0 0 false lj) rfl hls.own (hls.vals.mono nf_newer);have htC:=Ae (n:=6) hls.zero hls.blk rfl;have hrR:(wr.setCells y0.heap.size 0 [.int .i64 kk,.string ⟨#[]⟩,.int .i64 0,.float .f64 0,.bool false,.slice a3 lj.length c3]).rangeAt y0.heap.size 0 [.int .i64 kk,.string ⟨#[]⟩,.int .i64 0,.float .f64 0,.bool false,.slice a3 lj.length c3]:=World.rangeAt_setCells_same _ _ _ _ htC;have hfw:Fr (fun k=>k=y0.heap.size) wr (wr.setCells y0.heap.size 0 [.int .i64 kk,.string ⟨#[]⟩,.int .i64 0,.float .f64 0,.bool false,.slice a3 lj.length c3]):=Fr.setCells (S:=fun k=>k=y0.heap.size) (fun _=>rfl) _ _ _ (Fr.refl _ _);have hff:=hls.fr.trans_new hfw (fun i hi e=>by omega);have hbw:b<y0.heap.size:=hbw0;have hful:=hls.full
       have hrs:RS rp w0 (wr.setCells y0.heap.size 0 [.int .i64 kk,.string ⟨#[]⟩,.int .i64 0,.float .f64 0,.bool false,.slice a3 lj.length c3]) g b o n cap s (at_+uj) mj:=⟨hls.rs.scan.fr hfw (by omega) (by omega),hls.rs.env,hls.rs.below.trans (hfw.below hls.rs.below.size (fun i hi e=>by have:=h.out.below.size;omega)),hls.rs.base,hls.rs.le⟩;have hrv2:=hrv.mono (E7 hfw);replace hrv2:=Hd hrv2;replace htC:=Hd htC;replace hrR:=Hd hrR;replace hff:=Hd hff;replace hrs:=Hd hrs;replace hful:=Hd hful;clear hfw hrv hls hlk hre;go_upto_region 9 with fail
       refine wp_region_lit ?_;refine wpList_load_mid rfl 26 _ rfl (y0.heap.size+1) 0 rfl _ _ hful.out Tryz.underlying26 rfl Ab ?_;refine wpList_store_mid rfl 26 _ _ rfl y0.heap.size 0 _ rfl rfl htC.out Ab (one6 _ _ _ _ _ _ _ _) ?_;simp only [Act.put,List.setIfInBounds_toArray,List.set_cons_zero,List.set_cons_succ,wpList];generalize hW9:wr.setCells y0.heap.size 0 #[Value.int .i64 kk,.string ⟨#[]⟩,.int .i64 0,.float .f64 0,.bool false,.slice a3 lj.length c3].toList=W9;replace hrR:=hrR.out;replace hff:=hff.out;replace hrs:=hrs.out;replace hrv2:=hrv2.out;rw [show wr.setCells y0.heap.size 0 [Value.int .i64 kk,.string ⟨#[]⟩,.int .i64 0,.float .f64 0,.bool false,.slice a3 lj.length c3]=W9 from hW9] at hrR hff hrs hrv2;replace hrR:=Hd hrR;replace hff:=Hd hff;replace hrs:=Hd hrs;replace hrv2:=Hd hrv2;replace hW9:=Hd hW9;go_wp2_with fail
       refine bodyPost_ret (Av (v:=.agg #[.int .i64 kk,.string ⟨#[]⟩,.int .i64 0,.float .f64 0,.bool false,.slice a3 lj.length c3]) rfl rfl (run_loadVar_mid (P:=Tryz.prog) _ _ 0 26 _ _ hrR.out Tryz.underlying26 rfl Ab)) rfl ?_;rw [hre2.out];exact ⟨a3,c3,rfl,hrv2.out,hff.out,hrs.out⟩
end R2.R3
end Go.Proofs.YtagkgfniihiinaaGreatDoor
namespace Go.Proofs.YtagkgfniihiinaaGreatDoor
open Go.RowKit
set_option maxRecDepth 100000 in
set_option maxHeartbeats 6400000 in
theorem E6 {rp:Rp} {w0 w:World} {g b o n cap at_ many u q len N:Nat} {s:ByteArray} {d:Int} {c:UInt8} {t L:List UInt8} (h:RS rp w0 w g b o n cap s at_ many) (hL:s.data.toList.drop at_=c :: L)
   (hk:(Ac c=5/\N=len)\/(Ac c=13/\N=len)\/(Ac c=14/\N=len)\/(Ac c=12/\N=2 * len)) (hl:Aw L=.got (t,u)) (hn:¬(t=[45,49]/\(Ac c=4\/Ac c=5))) (hm:numS t 1000=some len)
   (hcall:∀W,RS rp w0 W g b o n cap s (at_+1+u) many->Calls Tryz.prog 70 #[.pointer (some ⟨g,0,none⟩),.int .i64 (Ac c:Int),.int .i64 (N:Int),.int .i64 d] W fun e w' => e=B1 q/\Fr (fun k=>k=g) W w') :
   Calls Tryz.prog 46 #[.pointer (some ⟨g,0,none⟩),.int .i64 d] w fun e w' => e=B1 q/\Fr (fun k=>k=g) w w' := by
 have hle:len<=1000:=Ek hm
 replace hcall:=Hd hcall
 obtain ⟨kd,hkd⟩:∃kd,kd=Ac c:=⟨_,rfl⟩
 rw [<-hkd] at hk hn
 have hlen:=C5 hl
 have hts:(⟨t.toArray⟩:ByteArray).size<=1000000:=by
   rw [As];show t.length<=_;omega
 have htl:((⟨t.toArray⟩:ByteArray).toList == [45,49])=decide (t=[45,49]):=by
   rw [ByteArray.toList_eq];show (t == [45,49])=_;rw [Bool.eq_iff_iff,beq_iff_eq,decide_eq_true_eq]
 replace hl:=Hd hl
 have hlt:at_<n:=by
   rcases Nat.lt_or_ge at_ n with hh | hh
   · exact hh
   · rw [List.drop_of_length_le (by rw [<-As,h.scan.size];exact hh)] at hL;cases hL
 have hai:¬(n:Int)<=(at_:Int):=by omega
 have hai2:(at_:Int)<(n:Int):=by omega
 have hbig:=h.scan.big
 obtain ⟨hcel,hL2⟩:w.cell? ⟨b,o+at_,none⟩=some (.int .u8 (c.toNat:Int))/\s.data.toList.drop (at_+1)=L:=by
   have hz:=h.scan.size;have h1:=h.scan.bytes at_ (by omega);have e1:=Lib.data_getElem? s at_ (by omega);have e2:s.data.toList[at_]?=some c:=by
     have:=congrArg (·[0]?) hL
     simp only [List.getElem?_drop,Nat.add_zero] at this;exact this
   rw [e1] at e2;rw [h1,Option.some.inj e2];refine ⟨rfl,?_⟩;rw [<-List.drop_drop,hL];rfl
 have hcb:=World.block_lt_of_cell? _ _ hcel
 replace hcb:b<w.heap.size:=hcb
 replace hL:=Hd hL
 replace hL2:=Hd hL2
 replace hcel:=Hd hcel
 obtain ⟨W1,hW1⟩:∃W1,W1=w.alloc (.cells #[.int .i64 0,.string ⟨#[]⟩,.int .i64 0,.float .f64 0,.bool false,.slice none 0 0] 26):=⟨_,rfl⟩
 have hb1:Below w.heap.size w W1:=by rw [hW1];exact (Below.refl _ _).alloc (Nat.le_refl _) _
 have h1:=h.grow hb1
 have hz1:W1.rangeAt w.heap.size 0 [.int .i64 0,.string ⟨#[]⟩,.int .i64 0,.float .f64 0,.bool false,.slice none 0 0]:=by
   rw [hW1];intro q x hq;rw [Nat.zero_add,World.cell?_alloc_new];simpa using hq
 have hk1:Blk W1 w.heap.size:=by rw [hW1];exact Blk.new _ _ _
 have c0:=h1.scan.c0
 have c1:=h1.scan.c1
 have hgl:g<W1.heap.size:=h1.scan.blk.lt
 have hgw:g<w.heap.size:=h.scan.blk.lt
 replace hW1:=Hd hW1
 replace hb1:=Hd hb1
 replace h1:=Hd h1
 replace hz1:=Hd hz1
 replace hk1:=Hd hk1
 replace h:=Hd h
 go_enter Tryz.func46,Tryz.ntmps46
 go_wp2_with fail
 rw [<-hW1.out]
 refine Af (by kernel_rfl) (by kernel_rfl) ?_
 repeat (go_big_quiet_step ((fail)))
 refine wpQuiet_nil ?_
 rintro _ ⟨xq,rfl⟩
 have hS:=Ag W1 xq
 obtain ⟨W2,hW2⟩:∃W2,W2=grow W1 xq:=⟨_,rfl⟩
 rw [<-hW2] at hS ⊢
 replace hW2:=Hd hW2
 have h2:=h1.out.grow hS
 have hb2:Below w.heap.size w W2:=hb1.out.trans (hS.mono hb1.out.size)
 have hz2:W2.rangeAt w.heap.size 0 [.int .i64 0,.string ⟨#[]⟩,.int .i64 0,.float .f64 0,.bool false,.slice none 0 0]:=fun q x hq=>by rw [hS.cell (World.block_lt_of_cell? _ _ (hz1.out q x hq))];exact hz1.out q x hq
 have hk2:Blk W2 w.heap.size:=hk1.out.of_block (hS.block _ hk1.out.lt)
 clear c0 c1 hS
 replace h2:=Hd h2
 replace hb2:=Hd hb2
 replace hz2:=Hd hz2
 replace hk2:=Hd hk2
 have c0:=h2.out.scan.c0
 have c1:=h2.out.scan.c1
 have cc:=(hb2.out.cell (p:=⟨b,o+at_,none⟩) hcb).trans hcel.out
 have hgl2:g<W2.heap.size:=h2.out.scan.blk.lt
 have hbl2:b<W2.heap.size:=Nat.lt_of_lt_of_le hcb hb2.out.size
 go_wp2_with fail
 refine Af (by kernel_rfl) (by kernel_rfl) ?_
 repeat (go_big_quiet_step ((go_at_call 63;(with_reducible exact A4 (Bb _ _)))))
 refine wpQuiet_nil ?_
 rintro _ ⟨xq,rfl⟩
 have hS:=Ag W2 xq
 obtain ⟨W3,hW3⟩:∃W3,W3=grow W2 xq:=⟨_,rfl⟩
 rw [<-hW3] at hS ⊢
 replace hW3:=Hd hW3
 have h3:=h2.out.grow hS
 have hb3:Below w.heap.size w W3:=hb2.out.trans (hS.mono hb2.out.size)
 have hz3:W3.rangeAt w.heap.size 0 [.int .i64 0,.string ⟨#[]⟩,.int .i64 0,.float .f64 0,.bool false,.slice none 0 0]:=fun q x hq=>by rw [hS.cell (World.block_lt_of_cell? _ _ (hz2.out q x hq))];exact hz2.out q x hq
 have hk3:Blk W3 w.heap.size:=hk2.out.of_block (hS.block _ hk2.out.lt)
 clear c0 c1 hS cc
 replace h3:=Hd h3
 replace hb3:=Hd hb3
 replace hz3:=Hd hz3
 replace hk3:=Hd hk3
 rw [<-hkd]
 have hk0:((kd:Int) == 0)=false:=by simp;omega
 replace hkd:=Hd hkd
 have c1:=h3.out.scan.c1
 have fz:=h3.out.scan.blk.frz 1 none
 go_wp2_with fail
 have e4:(at_:Int)+1=((at_+1:Nat):Int):=by omega
 rw [e4]
 have hf4:Fr (fun k=>k=g) w (W3.setCell ⟨g,1,none⟩ (.int .i64 ((at_+1:Nat):Int))):=Fr.setCell (S:=fun k=>k=g) (Ai hb3.out) (fun _=>rfl) _
 have h4:RS rp w0 (W3.setCell ⟨g,1,none⟩ (.int .i64 ((at_+1:Nat):Int))) g b o n cap s (at_+1) many:=h3.out.next (Fr.setCell (S:=fun k=>k=g) (Fr.refl _ _) (fun _=>rfl) _) (h3.out.scan.move _) (by omega)
 have hz4:(W3.setCell ⟨g,1,none⟩ (.int .i64 ((at_+1:Nat):Int))).rangeAt w.heap.size 0 [.int .i64 0,.string ⟨#[]⟩,.int .i64 0,.float .f64 0,.bool false,.slice none 0 0]:=fun q x hq=>by
   rw [Ad (fun e=>by have:=congrArg Addr.block e;simp at this;omega)];exact hz3.out q x hq
 have hk4:Blk (W3.setCell ⟨g,1,none⟩ (.int .i64 ((at_+1:Nat):Int))) w.heap.size:=hk3.out.setCell _ _
 generalize W3.setCell ⟨g,1,none⟩ (.int .i64 ((at_+1:Nat):Int))=W4 at *
 clear c1 fz e4
 replace h4:=Hd h4
 replace hf4:=Hd hf4
 replace hz4:=Hd hz4
 replace hk4:=Hd hk4
 refine (Cj h4.out.scan h4.out.le (by rw [hL2.out];exact hl.out)).mono ?_
 rintro e W6 ⟨rfl,hf6,hs6,hle6⟩
 have h6:=h4.out.next hf6 hs6 hle6
 have hf06:=hf4.out.trans hf6
 have hne6:¬w.heap.size=g:=by omega
 have hz6:W6.rangeAt w.heap.size 0 [.int .i64 0,.string ⟨#[]⟩,.int .i64 0,.float .f64 0,.bool false,.slice none 0 0]:=fun q x hq=>hf6.cell (hz4.out q x hq) hne6
 have hk6:Blk W6 w.heap.size:=hk4.out.fr hf6 hne6
 clear hf6 hs6 hle6
 replace h6:=Hd h6
 replace hf06:=Hd hf06
 replace hz6:=Hd hz6
 replace hk6:=Hd hk6
 rw [<-hkd.out] at hcall
 have hno6:=Dw (w:=W6) (t:=⟨t.toArray⟩) (most:=1000) hts (by omega) h6.out.nums hm
 replace hno6:=Hd hno6
 clear hm hlen hts
 generalize (⟨t.toArray⟩:ByteArray)=T at *
 go_upto_region 8 with fail
 go_cut [51] from 43 to 51 (fun s5 wx=>s5=.bool false/\wx=W6)
 case first=>
   rcases hk with ⟨rfl,_⟩ | ⟨rfl,_⟩ | ⟨rfl,_⟩ | ⟨rfl,_⟩
   · by_cases ht:t=[45,49]
     · exact absurd ⟨ht,.inr rfl⟩ hn
     · rw [decide_eq_false ht] at htl
       replace ht:=Hd ht;clear hn;go_wp2_with fail
       go_meet
       exact ⟨rfl,rfl⟩
   all_goals
     clear hn
     rcases Bool.eq_false_or_eq_true (decide (t=[45,49])) with hd | hd
     all_goals
       rw [hd] at htl
       replace hd:=Hd hd
       go_wp2_with fail
       go_meet
       exact ⟨rfl,rfl⟩
 obtain ⟨rfl,hww⟩:=hcut
 obtain rfl:=hww.symm
 clear hww hn htl
 have hkk:((kd=5\/kd=13\/kd=14)/\N=len)\/kd=12/\N=2 * len:=by omega
 clear hk
 rcases hkk with ⟨hk,rfl⟩ | ⟨rfl,rfl⟩
 · have z4:((kd:Int) == 4)=false:=by simp;omega
   have z10:((kd:Int) == 10)=false:=by simp;omega
   have z11:((kd:Int) == 11)=false:=by simp;omega
   go_upto_if 69 with fail
   go_cut [69] from 69 to 72 (fun s5 wx=>s5=.bool true/\wx=W6)
   case first=>
     rcases hk with rfl | rfl | rfl
     all_goals
       go_wp2_with fail
       go_meet
       exact ⟨rfl,rfl⟩
   obtain ⟨rfl,hww⟩:=hcut;obtain rfl:=hww.symm;clear hww;go_wp2_with fail
   refine hno6.out.mono ?_;rintro e W7 ⟨rfl,hb⟩;have h7:=h6.out.grow hb;have hf7:=hf06.out.trans (Ai (g:=g) hb);have hz7:W7.rangeAt w.heap.size 0 [.int .i64 0,.string ⟨#[]⟩,.int .i64 0,.float .f64 0,.bool false,.slice none 0 0]:=fun q x hq=>by rw [(hb).cell (World.block_lt_of_cell? _ _ (hz6.out q x hq))];exact hz6.out q x hq
   have hk7:Blk W7 w.heap.size:=hk6.out.of_block ((hb).block _ hk6.out.lt);replace h7:=Hd h7;replace hf7:=Hd hf7;replace hz7:=Hd hz7;replace hk7:=Hd hk7;clear hb;go_wp2_with fail
   refine (hcall.out W7 h7.out).mono ?_;rintro e w' ⟨rfl,hb2⟩;exact ⟨rfl,rfl,hf7.out.trans hb2⟩
 · go_wp2_with fail
   refine hno6.out.mono ?_;rintro e W7 ⟨rfl,hb⟩;have h7:=h6.out.grow hb;have hf7:=hf06.out.trans (Ai (g:=g) hb);have hz7:W7.rangeAt w.heap.size 0 [.int .i64 0,.string ⟨#[]⟩,.int .i64 0,.float .f64 0,.bool false,.slice none 0 0]:=fun q x hq=>by rw [(hb).cell (World.block_lt_of_cell? _ _ (hz6.out q x hq))];exact hz6.out q x hq
   have hk7:Blk W7 w.heap.size:=hk6.out.of_block ((hb).block _ hk6.out.lt);replace h7:=Hd h7;replace hf7:=Hd hf7;replace hz7:=Hd hz7;replace hk7:=Hd hk7;clear hb;go_wp2_with fail
   have e12:(2:Int) * (len:Int)=((2 * len:Nat):Int):=by omega
   try rw [e12]
   clear e12;refine (hcall.out W7 h7.out).mono ?_;rintro e w' ⟨rfl,hb2⟩;exact ⟨rfl,rfl,hf7.out.trans hb2⟩
set_option maxRecDepth 100000 in
set_option maxHeartbeats 6400000 in
theorem Fx {rp:Rp} {w0 w:World} {g b o n cap at_ many u u2 m2 len N:Nat} {s:ByteArray} {d:Int} {c:UInt8} {t L:List UInt8} {l:List V} (h:RS rp w0 w g b o n cap s at_ many) (hL:s.data.toList.drop at_=c :: L)
   (hk:(Ac c=5/\N=len)\/(Ac c=13/\N=len)\/(Ac c=14/\N=len)\/(Ac c=12/\N=2 * len)) (hl:Aw L=.got (t,u)) (hn:¬(t=[45,49]/\(Ac c=4\/Ac c=5))) (hm:numS t 1000=some len)
   (hbw:b<w.heap.size)
   (hcall:∀W,RS rp w0 W g b o n cap s (at_+1+u) many->Calls Tryz.prog 70 #[.pointer (some ⟨g,0,none⟩),.int .i64 (Ac c:Int),.int .i64 (N:Int),.int .i64 d] W (ListQ rp w0 g b o n cap s (Ac c:Int) (at_+1+u) (.got (l,u2,m2)) W)) :
   Calls Tryz.prog 46 #[.pointer (some ⟨g,0,none⟩),.int .i64 d] w (ValQ rp w0 g b o n cap s at_ (.got (.mk (Ac c:Int) ⟨#[]⟩ 0 0 false l,1+u+u2,m2)) w):=by
 have hle:len<=1000:=Ek hm
 replace hcall:=Hd hcall
 obtain ⟨kd,hkd⟩:∃kd,kd=Ac c:=⟨_,rfl⟩
 rw [<-hkd] at hk hn
 have hlen:=C5 hl
 have hts:(⟨t.toArray⟩:ByteArray).size<=1000000:=by
   rw [As];show t.length<=_;omega
 have htl:((⟨t.toArray⟩:ByteArray).toList == [45,49])=decide (t=[45,49]):=by
   rw [ByteArray.toList_eq];show (t == [45,49])=_;rw [Bool.eq_iff_iff,beq_iff_eq,decide_eq_true_eq]
 replace hl:=Hd hl
 have hlt:at_<n:=by
   rcases Nat.lt_or_ge at_ n with hh | hh
   · exact hh
   · rw [List.drop_of_length_le (by rw [<-As,h.scan.size];exact hh)] at hL;cases hL
 have hai:¬(n:Int)<=(at_:Int):=by omega
 have hai2:(at_:Int)<(n:Int):=by omega
 have hbig:=h.scan.big
 obtain ⟨hcel,hL2⟩:w.cell? ⟨b,o+at_,none⟩=some (.int .u8 (c.toNat:Int))/\s.data.toList.drop (at_+1)=L:=by
   have hz:=h.scan.size;have h1:=h.scan.bytes at_ (by omega);have e1:=Lib.data_getElem? s at_ (by omega);have e2:s.data.toList[at_]?=some c:=by
     have:=congrArg (·[0]?) hL
     simp only [List.getElem?_drop,Nat.add_zero] at this;exact this
   rw [e1] at e2;rw [h1,Option.some.inj e2];refine ⟨rfl,?_⟩;rw [<-List.drop_drop,hL];rfl
 have hcb:=World.block_lt_of_cell? _ _ hcel
 replace hcb:b<w.heap.size:=hcb
 replace hL:=Hd hL
 replace hL2:=Hd hL2
 replace hcel:=Hd hcel
 obtain ⟨W1,hW1⟩:∃W1,W1=w.alloc (.cells #[.int .i64 0,.string ⟨#[]⟩,.int .i64 0,.float .f64 0,.bool false,.slice none 0 0] 26):=⟨_,rfl⟩
 have hb1:Below w.heap.size w W1:=by rw [hW1];exact (Below.refl _ _).alloc (Nat.le_refl _) _
 have h1:=h.grow hb1
 have hz1:W1.rangeAt w.heap.size 0 [.int .i64 0,.string ⟨#[]⟩,.int .i64 0,.float .f64 0,.bool false,.slice none 0 0]:=by
   rw [hW1];intro q x hq;rw [Nat.zero_add,World.cell?_alloc_new];simpa using hq
 have hk1:Blk W1 w.heap.size:=by rw [hW1];exact Blk.new _ _ _
 have c0:=h1.scan.c0
 have c1:=h1.scan.c1
 have hgl:g<W1.heap.size:=h1.scan.blk.lt
 have hgw:g<w.heap.size:=h.scan.blk.lt
 replace hW1:=Hd hW1
 replace hb1:=Hd hb1
 replace h1:=Hd h1
 replace hz1:=Hd hz1
 replace hk1:=Hd hk1
 replace h:=Hd h
 go_enter Tryz.func46,Tryz.ntmps46
 go_wp2_with fail
 rw [<-hW1.out]
 refine Af (by kernel_rfl) (by kernel_rfl) ?_
 repeat (go_big_quiet_step ((fail)))
 refine wpQuiet_nil ?_
 rintro _ ⟨xq,rfl⟩
 have hS:=Ag W1 xq
 obtain ⟨W2,hW2⟩:∃W2,W2=grow W1 xq:=⟨_,rfl⟩
 rw [<-hW2] at hS ⊢
 replace hW2:=Hd hW2
 have h2:=h1.out.grow hS
 have hb2:Below w.heap.size w W2:=hb1.out.trans (hS.mono hb1.out.size)
 have hz2:W2.rangeAt w.heap.size 0 [.int .i64 0,.string ⟨#[]⟩,.int .i64 0,.float .f64 0,.bool false,.slice none 0 0]:=fun q x hq=>by rw [hS.cell (World.block_lt_of_cell? _ _ (hz1.out q x hq))];exact hz1.out q x hq
 have hk2:Blk W2 w.heap.size:=hk1.out.of_block (hS.block _ hk1.out.lt)
 clear c0 c1 hS
 replace h2:=Hd h2
 replace hb2:=Hd hb2
 replace hz2:=Hd hz2
 replace hk2:=Hd hk2
 have c0:=h2.out.scan.c0
 have c1:=h2.out.scan.c1
 have cc:=(hb2.out.cell (p:=⟨b,o+at_,none⟩) hcb).trans hcel.out
 have hgl2:g<W2.heap.size:=h2.out.scan.blk.lt
 have hbl2:b<W2.heap.size:=Nat.lt_of_lt_of_le hcb hb2.out.size
 go_wp2_with fail
 refine Af (by kernel_rfl) (by kernel_rfl) ?_
 repeat (go_big_quiet_step ((go_at_call 63;(with_reducible exact A4 (Bb _ _)))))
 refine wpQuiet_nil ?_
 rintro _ ⟨xq,rfl⟩
 have hS:=Ag W2 xq
 obtain ⟨W3,hW3⟩:∃W3,W3=grow W2 xq:=⟨_,rfl⟩
 rw [<-hW3] at hS ⊢
 replace hW3:=Hd hW3
 have h3:=h2.out.grow hS
 have hb3:Below w.heap.size w W3:=hb2.out.trans (hS.mono hb2.out.size)
 have hz3:W3.rangeAt w.heap.size 0 [.int .i64 0,.string ⟨#[]⟩,.int .i64 0,.float .f64 0,.bool false,.slice none 0 0]:=fun q x hq=>by rw [hS.cell (World.block_lt_of_cell? _ _ (hz2.out q x hq))];exact hz2.out q x hq
 have hk3:Blk W3 w.heap.size:=hk2.out.of_block (hS.block _ hk2.out.lt)
 clear c0 c1 hS cc
 replace h3:=Hd h3
 replace hb3:=Hd hb3
 replace hz3:=Hd hz3
 replace hk3:=Hd hk3
 rw [<-hkd]
 have hk0:((kd:Int) == 0)=false:=by simp;omega
 replace hkd:=Hd hkd
 have c1:=h3.out.scan.c1
 have fz:=h3.out.scan.blk.frz 1 none
 go_wp2_with fail
 have e4:(at_:Int)+1=((at_+1:Nat):Int):=by omega
 rw [e4]
 have hf4:Fr (fun k=>k=g) w (W3.setCell ⟨g,1,none⟩ (.int .i64 ((at_+1:Nat):Int))):=Fr.setCell (S:=fun k=>k=g) (Ai hb3.out) (fun _=>rfl) _
 have h4:RS rp w0 (W3.setCell ⟨g,1,none⟩ (.int .i64 ((at_+1:Nat):Int))) g b o n cap s (at_+1) many:=h3.out.next (Fr.setCell (S:=fun k=>k=g) (Fr.refl _ _) (fun _=>rfl) _) (h3.out.scan.move _) (by omega)
 have hz4:(W3.setCell ⟨g,1,none⟩ (.int .i64 ((at_+1:Nat):Int))).rangeAt w.heap.size 0 [.int .i64 0,.string ⟨#[]⟩,.int .i64 0,.float .f64 0,.bool false,.slice none 0 0]:=fun q x hq=>by
   rw [Ad (fun e=>by have:=congrArg Addr.block e;simp at this;omega)];exact hz3.out q x hq
 have hk4:Blk (W3.setCell ⟨g,1,none⟩ (.int .i64 ((at_+1:Nat):Int))) w.heap.size:=hk3.out.setCell _ _
 generalize W3.setCell ⟨g,1,none⟩ (.int .i64 ((at_+1:Nat):Int))=W4 at *
 clear c1 fz e4
 replace h4:=Hd h4
 replace hf4:=Hd hf4
 replace hz4:=Hd hz4
 replace hk4:=Hd hk4
 refine (Cj h4.out.scan h4.out.le (by rw [hL2.out];exact hl.out)).mono ?_
 rintro e W6 ⟨rfl,hf6,hs6,hle6⟩
 have h6:=h4.out.next hf6 hs6 hle6
 have hf06:=hf4.out.trans hf6
 have hne6:¬w.heap.size=g:=by omega
 have hz6:W6.rangeAt w.heap.size 0 [.int .i64 0,.string ⟨#[]⟩,.int .i64 0,.float .f64 0,.bool false,.slice none 0 0]:=fun q x hq=>hf6.cell (hz4.out q x hq) hne6
 have hk6:Blk W6 w.heap.size:=hk4.out.fr hf6 hne6
 clear hf6 hs6 hle6
 replace h6:=Hd h6
 replace hf06:=Hd hf06
 replace hz6:=Hd hz6
 replace hk6:=Hd hk6
 rw [<-hkd.out] at hcall
 have hno6:=Dw (w:=W6) (t:=⟨t.toArray⟩) (most:=1000) hts (by omega) h6.out.nums hm
 replace hno6:=Hd hno6
 clear hm hlen hts
 generalize (⟨t.toArray⟩:ByteArray)=T at *
 go_upto_region 8 with fail
 go_cut [51] from 43 to 51 (fun s5 wx=>s5=.bool false/\wx=W6)
 case first=>
   rcases hk with ⟨rfl,_⟩ | ⟨rfl,_⟩ | ⟨rfl,_⟩ | ⟨rfl,_⟩
   · by_cases ht:t=[45,49]
     · exact absurd ⟨ht,.inr rfl⟩ hn
     · rw [decide_eq_false ht] at htl
       replace ht:=Hd ht;clear hn;go_wp2_with fail
       go_meet
       exact ⟨rfl,rfl⟩
   all_goals
     clear hn
     rcases Bool.eq_false_or_eq_true (decide (t=[45,49])) with hd | hd
     all_goals
       rw [hd] at htl
       replace hd:=Hd hd
       go_wp2_with fail
       go_meet
       exact ⟨rfl,rfl⟩
 obtain ⟨rfl,hww⟩:=hcut
 obtain rfl:=hww.symm
 clear hww hn htl
 have hkk:((kd=5\/kd=13\/kd=14)/\N=len)\/kd=12/\N=2 * len:=by omega
 clear hk
 rcases hkk with ⟨hk,rfl⟩ | ⟨rfl,rfl⟩
 · have z4:((kd:Int) == 4)=false:=by simp;omega
   have z10:((kd:Int) == 10)=false:=by simp;omega
   have z11:((kd:Int) == 11)=false:=by simp;omega
   go_upto_if 69 with fail
   go_cut [69] from 69 to 72 (fun s5 wx=>s5=.bool true/\wx=W6)
   case first=>
     rcases hk with rfl | rfl | rfl
     all_goals
       go_wp2_with fail
       go_meet
       exact ⟨rfl,rfl⟩
   obtain ⟨rfl,hww⟩:=hcut;obtain rfl:=hww.symm;clear hww;go_wp2_with fail
   refine hno6.out.mono ?_;rintro e W7 ⟨rfl,hb⟩;have h7:=h6.out.grow hb;have hf7:=hf06.out.trans (Ai (g:=g) hb);have hz7:W7.rangeAt w.heap.size 0 [.int .i64 0,.string ⟨#[]⟩,.int .i64 0,.float .f64 0,.bool false,.slice none 0 0]:=fun q x hq=>by rw [(hb).cell (World.block_lt_of_cell? _ _ (hz6.out q x hq))];exact hz6.out q x hq
   have hk7:Blk W7 w.heap.size:=hk6.out.of_block ((hb).block _ hk6.out.lt);replace h7:=Hd h7;replace hf7:=Hd hf7;replace hz7:=Hd hz7;replace hk7:=Hd hk7;clear hb;go_wp2_with fail
   refine (hcall.out W7 h7.out).mono ?_;rintro e W8 ⟨ad1,ca1,rfl,hrv8,hf8,h8⟩;have hf08:=hf7.out.trans hf8;have hne6:¬w.heap.size=g:=by omega
   have hz8:W8.rangeAt w.heap.size 0 [.int .i64 0,.string ⟨#[]⟩,.int .i64 0,.float .f64 0,.bool false,.slice none 0 0]:=fun q x hq=>hf8.cell (hz7.out q x hq) hne6;have hk8:Blk W8 w.heap.size:=hk7.out.fr hf8 hne6;have hlt7:=hk7.out.lt;clear hf8;have htC:=Ae (n:=6) hz8 hk8 rfl;have hrR:(W8.setCells w.heap.size 0 [.int .i64 (kd:Int),.string ⟨#[]⟩,.int .i64 0,.float .f64 0,.bool false,.slice ad1 l.length ca1]).rangeAt w.heap.size 0 [.int .i64 (kd:Int),.string ⟨#[]⟩,.int .i64 0,.float .f64 0,.bool false,.slice ad1 l.length ca1]:=World.rangeAt_setCells_same _ _ _ _ htC;have hfw:Fr (fun k=>k=w.heap.size) W8 (W8.setCells w.heap.size 0 [.int .i64 (kd:Int),.string ⟨#[]⟩,.int .i64 0,.float .f64 0,.bool false,.slice ad1 l.length ca1]):=Fr.setCells (S:=fun k=>k=w.heap.size) (fun _=>rfl) _ _ _ (Fr.refl _ _);have hff:=hf08.trans_new hfw (fun i hi e=>by omega)
   have hrs:RS rp w0 (W8.setCells w.heap.size 0 [.int .i64 (kd:Int),.string ⟨#[]⟩,.int .i64 0,.float .f64 0,.bool false,.slice ad1 l.length ca1]) g b o n cap s _ m2:=h8.fr hfw (by omega) (by omega) (fun i e=>by have:=h.out.base;omega);have hrv9:=hrv8.mono (E7 hfw hlt7);replace htC:=Hd htC;replace hrR:=Hd hrR;replace hff:=Hd hff;replace hrs:=Hd hrs;replace hrv9:=Hd hrv9;clear hfw hrv8 h8 hf08 hz8 hk8;go_wp2_with (refine wpList_store_mid rfl 26 _ _ rfl w.heap.size 0 _ rfl rfl htC.out Ab (one6 _ _ _ _ _ _ _ _) ?_)
   refine bodyPost_ret (Av (v:=.agg #[.int .i64 (kd:Int),.string ⟨#[]⟩,.int .i64 0,.float .f64 0,.bool false,.slice ad1 l.length ca1]) rfl rfl (run_loadVar_mid (P:=Tryz.prog) _ _ 0 26 _ _ hrR.out Tryz.underlying26 rfl Ab)) rfl ?_;rw [<-hkd.out];exact ⟨ad1,ca1,rfl,hrv9.out,hff.out,by rw [show at_+(1+u+u2)=at_+1+u+u2 by omega];exact hrs.out⟩
 · go_wp2_with fail
   refine hno6.out.mono ?_;rintro e W7 ⟨rfl,hb⟩;have h7:=h6.out.grow hb;have hf7:=hf06.out.trans (Ai (g:=g) hb);have hz7:W7.rangeAt w.heap.size 0 [.int .i64 0,.string ⟨#[]⟩,.int .i64 0,.float .f64 0,.bool false,.slice none 0 0]:=fun q x hq=>by rw [(hb).cell (World.block_lt_of_cell? _ _ (hz6.out q x hq))];exact hz6.out q x hq
   have hk7:Blk W7 w.heap.size:=hk6.out.of_block ((hb).block _ hk6.out.lt);replace h7:=Hd h7;replace hf7:=Hd hf7;replace hz7:=Hd hz7;replace hk7:=Hd hk7;clear hb;go_wp2_with fail
   have e12:(2:Int) * (len:Int)=((2 * len:Nat):Int):=by omega
   try rw [e12]
   clear e12;refine (hcall.out W7 h7.out).mono ?_;rintro e W8 ⟨ad1,ca1,rfl,hrv8,hf8,h8⟩;have hf08:=hf7.out.trans hf8;have hne6:¬w.heap.size=g:=by omega
   have hz8:W8.rangeAt w.heap.size 0 [.int .i64 0,.string ⟨#[]⟩,.int .i64 0,.float .f64 0,.bool false,.slice none 0 0]:=fun q x hq=>hf8.cell (hz7.out q x hq) hne6;have hk8:Blk W8 w.heap.size:=hk7.out.fr hf8 hne6;have hlt7:=hk7.out.lt;clear hf8;have htC:=Ae (n:=6) hz8 hk8 rfl;have hrR:(W8.setCells w.heap.size 0 [.int .i64 12,.string ⟨#[]⟩,.int .i64 0,.float .f64 0,.bool false,.slice ad1 l.length ca1]).rangeAt w.heap.size 0 [.int .i64 12,.string ⟨#[]⟩,.int .i64 0,.float .f64 0,.bool false,.slice ad1 l.length ca1]:=World.rangeAt_setCells_same _ _ _ _ htC;have hfw:Fr (fun k=>k=w.heap.size) W8 (W8.setCells w.heap.size 0 [.int .i64 12,.string ⟨#[]⟩,.int .i64 0,.float .f64 0,.bool false,.slice ad1 l.length ca1]):=Fr.setCells (S:=fun k=>k=w.heap.size) (fun _=>rfl) _ _ _ (Fr.refl _ _);have hff:=hf08.trans_new hfw (fun i hi e=>by omega)
   have hrs:RS rp w0 (W8.setCells w.heap.size 0 [.int .i64 12,.string ⟨#[]⟩,.int .i64 0,.float .f64 0,.bool false,.slice ad1 l.length ca1]) g b o n cap s _ m2:=h8.fr hfw (by omega) (by omega) (fun i e=>by have:=h.out.base;omega);have hrv9:=hrv8.mono (E7 hfw hlt7);replace htC:=Hd htC;replace hrR:=Hd hrR;replace hff:=Hd hff;replace hrs:=Hd hrs;replace hrv9:=Hd hrv9;clear hfw hrv8 h8 hf08 hz8 hk8;go_wp2_with (refine wpList_store_mid rfl 26 _ _ rfl w.heap.size 0 _ rfl rfl htC.out Ab (one6 _ _ _ _ _ _ _ _) ?_)
   refine bodyPost_ret (Av (v:=.agg #[.int .i64 12,.string ⟨#[]⟩,.int .i64 0,.float .f64 0,.bool false,.slice ad1 l.length ca1]) rfl rfl (run_loadVar_mid (P:=Tryz.prog) _ _ 0 26 _ _ hrR.out Tryz.underlying26 rfl Ab)) rfl ?_;rw [<-hkd.out];exact ⟨ad1,ca1,rfl,hrv9.out,hff.out,by rw [show at_+(1+u+u2)=at_+1+u+u2 by omega];exact hrs.out⟩
end Go.Proofs.YtagkgfniihiinaaGreatDoor
