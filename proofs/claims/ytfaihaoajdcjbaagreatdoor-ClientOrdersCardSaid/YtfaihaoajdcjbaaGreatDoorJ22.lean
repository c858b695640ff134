/- The statements of layer 10: their walks. -/
import Derived.Test.YtfaihaoajdcjbaaGreatDoorRecentC
import Derived.Test.YtfaihaoajdcjbaaGreatDoorProg
import Derived.Test.YtfaihaoajdcjbaaGreatDoorBase
import Derived.BigQuiet
import Derived.Deep.QuietTactic
import Derived.Deep.DeepCutAuto
import Derived.Deep.RegionHeld3
import Derived.Deep.CutBlock
import Derived.Test.YtfaihaoajdcjbaaGreatDoorJ28
set_option linter.all false
namespace Go.Proofs.YtfaihaoajdcjbaaGreatDoor
open Go.RowKit
theorem Rec.lt {w:World} {r m:Nat} {ks:List ByteArray} {ns:List Nat} (h:Rec w r m ks ns):∀b∈r :: m :: ns,b<w.heap.size:=fun b hb=>by
 simp only [List.mem_cons] at hb;rcases hb with rfl | rfl | hb
 · exact h.ring.lt _ (by simp)
 · exact h.mlt
 · exact h.ring.lt _ (by simp [hb])
theorem Rec.below {w w' : World} {r m:Nat} {ks:List ByteArray} {ns:List Nat} (h:Rec w r m ks ns) (hb:Below w.heap.size w w'):Rec w' r m ks ns:=
 h.fr (Fr.of_below hb) (fun b hb' hle=>by have:=h.lt b hb'; omega)
theorem clear_rec {w:World} {r m:Nat} {ks:List ByteArray} {ns:List Nat} (h:Rec w r m ks ns) :
   Calls Tryz.prog 70 #[P0 r] w fun e w' => e=.returned (.tuple #[])/\Rec w' r w.heap.size [] []/\Fr (·∈[r]) w w' := by
 obtain ⟨a,b,ha,hb,h2⟩:=h.ring.at 0 (by omega);simp at ha;subst ha;have hlk:=h.ring.linked;obtain ⟨xs,z,hz⟩:=Fd r ns;have e1:r :: ns++[r]=xs++z :: [r]:=by rw [hz];simp
 rw [e1] at hlk;have h1:=(A9.1 hlk).2.2.1;exact F9 h.ring.root h1 h2 h.links (h.ring.blk r (by simp))
abbrev kA:ByteArray:=⟨#[97]⟩
abbrev kB:ByteArray:=⟨#[98]⟩
theorem tb:Bn [kA] kB=[kA,kB]:=by decide
theorem tc:Bn [kA,kB] kA=[kB,kA]:=by decide
structure NS where
 es:List (ByteArray × V)
 ts:List (Int × ByteArray)
 last:Int
 most:Int
def NS.keys (s:NS):List ByteArray:=s.es.map (·.1)
def V.zero:V:=.mk 0 ⟨#[]⟩ 0 0 false []
def A1 (es:List (ByteArray × V)) (k:ByteArray):Option V:=(es.find? (fun p=>p.1=k)).map (·.2)
def NS.get (s:NS) (k:ByteArray):NS:=match A1 s.es k with
 | none=>s
 | some v=>{ s with es:=s.es.filter (fun p=>p.1≠k)++[(k,v)] }
def NS.begin (s:NS) (k:ByteArray):NS:={ s with last:=s.last+1,ts:=s.ts++[(s.last+1,k)] }
def Dn (ts:List (Int × ByteArray)) (t:Int):Option ByteArray:=(ts.find? (fun p=>p.1=t)).map (·.2)
def NS.without (s:NS) (t:Int):NS:={ s with ts:=s.ts.filter (fun p=>p.1≠t) }
def putE (es:List (ByteArray × V)) (k:ByteArray) (v:V):List (ByteArray × V):=es.filter (fun p=>p.1≠k)++[(k,v)]
def NS.put (s:NS) (k:ByteArray) (v:V):NS:={ s with es:=if s.most<(putE s.es k v).length then (putE s.es k v).tail else putE s.es k v }
def NS.fills (s:NS) (t:Int):Bool:=(Dn s.ts t).isSome && decide (s.most≠0)
def NS.fill (s:NS) (t:Int) (v:V):NS:=match Dn s.ts t with
 | none=>s.without t
 | some k=>if s.most=0 then s.without t else (s.without t).put k v
def NS.clear (s:NS):NS:={ s with ts:=[],es:=[] }
theorem C8 (es:List (ByteArray × V)) (k:ByteArray):(es.filter (fun p=>p.1≠k)).map (·.1)=(es.map (·.1)).filter (fun x=>x≠k):=by
 rw [List.filter_map];rfl
theorem C9 (es:List (ByteArray × V)) (k:ByteArray) (v:V):(putE es k v).map (·.1)=Bn (es.map (·.1)) k:=by
 rw [putE,List.map_append,C8,Bn];rfl
theorem touch_perm {ks:List ByteArray} {k:ByteArray} (hn:ks.Nodup) (hk:k∈ks):(Bn ks k).Perm ks:=by
 obtain ⟨a,b,rfl⟩:=List.append_of_mem hk;rw [Bn,Dc hn,List.append_assoc];exact List.Perm.append_left _ (List.perm_append_singleton _ _)
theorem lookE_none {es:List (ByteArray × V)} {k:ByteArray}:A1 es k=none ↔ k ∉ es.map (·.1):=by
 simp [A1];exact ⟨fun h x hx=>h k x hx rfl,fun h a b hab e=>h b (e ▸ hab)⟩
theorem lookE_mem {es:List (ByteArray × V)} {k:ByteArray} {v:V} (h:A1 es k=some v):(k,v)∈es:=by
 obtain ⟨p,h1,h2⟩:=Option.map_eq_some_iff.1 h;have h3:=List.mem_of_find?_eq_some h1;have h4:=List.find?_some h1;simp at h4;subst h4;subst h2;exact h3
section maps
variable {κ:Type} [DecidableEq κ]
theorem keys_set (l:List (κ × Value)) (k:κ) (v:Value):(l.map (fun p=>if p.1=k then (k,v) else p)).map (·.1)=l.map (·.1):=by
 rw [List.map_map];have:((fun p:κ × Value=>p.1) ∘ fun p=>if p.1=k then (k,v) else p)=fun p=>p.1:=by
   funext p;by_cases hp:p.1=k<;>simp [hp]
 rw [this]
theorem alook_ains {l:List (κ × Value)} (hn:(l.map (·.1)).Nodup) (k:κ) (v:Value) (k' : κ):Ao (ains l k v) k' = if k' = k then some v else Ao l k' := by
 have hd:∀(l:List (κ × Value)) (a:κ),a≠k->Ao (l.map (fun p=>if p.1=k then (k,v) else p)) a=Ao l a:=by
   intro l a ha;induction l with
   | nil=>rfl
   | cons p l ih=>
     simp only [Ao,List.map_cons,List.find?_cons] at ih ⊢;by_cases hp:p.1=k
     · simp only [hp,if_true]
       rw [show (decide (k=a))=false by simp [Ne.symm ha]];exact ih
     · simp only [hp,if_false]
       by_cases hpa:p.1=a
       · simp [hpa]
       · rw [show decide (p.1=a)=false by simp [hpa]];exact ih
 unfold ains;split
 · rename_i hk
   by_cases he:k' = k
   · subst he
     rw [if_pos rfl];refine B3 (by rw [keys_set];exact hn) ?_;obtain ⟨p,hp,rfl⟩:=List.mem_map.1 hk;exact List.mem_map.2 ⟨p,hp,by simp⟩
   · rw [if_neg he];exact hd l k' he
 · rename_i hk
   by_cases he:k' = k
   · subst he
     rw [if_pos rfl];refine B3 (by rw [List.map_append,List.nodup_append];exact ⟨hn,by simp,fun a ha b hb=>by simp at hb;subst hb;exact fun e=>hk (e ▸ ha)⟩) (by simp)
   · rw [if_neg he,Ao,Ao,List.find?_append]
     simp [show ¬k=k' from fun e=>he e.symm]
theorem alook_adel (l:List (κ × Value)) (k k' : κ) (h:k' ≠ k):Ao (adel l k) k' = Ao l k' := by
 induction l with
 | nil=>rfl
 | cons p l ih=>
   by_cases hp:p.1=k
   · simp only [adel,List.filter_cons,hp,ne_eq,not_true,decide_false,Bool.false_eq_true,if_false,Ao,List.find?_cons] at ih ⊢
     rw [show decide (k=k')=false by simp [Ne.symm h]];exact ih
   · simp only [adel,List.filter_cons,hp,ne_eq,not_false_iff,decide_true,if_true,Ao,List.find?_cons] at ih ⊢
     by_cases hpa:p.1=k'
     · simp [hpa]
     · rw [show decide (p.1=k')=false by simp [hpa]];exact ih
theorem keys_ains (l:List (κ × Value)) (k:κ) (v:Value):(ains l k v).map (·.1)=if k∈l.map (·.1) then l.map (·.1) else l.map (·.1)++[k]:=by
 unfold ains;split
 · exact keys_set l k v
 · simp
theorem keys_adel (l:List (κ × Value)) (k:κ):(adel l k).map (·.1)=(l.map (·.1)).filter (fun x=>x≠k):=by
 rw [adel,List.filter_map];rfl
end maps
def Vals (w:World) (vb:Nat) (fp:List Nat) (es:List (ByteArray × V)):Prop:=
 ∃l,AMap strKey w vb l/\(l.map (·.1)).Perm (es.map (·.1))/\∀p∈es,p.2.count<=100000000/\∃cs:List Value,Ao l p.1=some (.agg cs.toArray)/\RV (off fp w) cs p.2
theorem Vals.lt {w:World} {vb:Nat} {fp:List Nat} {es:List (ByteArray × V)} (h:Vals w vb fp es):vb<w.heap.size:=let ⟨_,h,_⟩:=h;h.lt
theorem Vals.nodup {w:World} {vb:Nat} {fp:List Nat} {es:List (ByteArray × V)} (h:Vals w vb fp es):(es.map (·.1)).Nodup:=let ⟨_,h1,h2,_⟩:=h;h2.nodup_iff.1 h1.nodup
theorem Vals.of_block {w w' : World} {vb:Nat} {fp fp' : List Nat} {es:List (ByteArray × V)} (h:Vals w vb fp es) (hb:w'.heap[vb]?=w.heap[vb]?) (hr:∀a u,off fp w a=some u->off fp' w' a=some u):Vals w' vb fp' es:=
 let ⟨l,h1,h2,h3⟩:=h
 ⟨l,h1.of_block hb,h2,fun p hp=>let ⟨hc,cs,h4,h5⟩:=h3 p hp;⟨hc,cs,h4,h5.mono hr⟩⟩
theorem Vals.perm {w:World} {vb:Nat} {fp:List Nat} {es es' : List (ByteArray × V)} (h:Vals w vb fp es) (hp:es.Perm es'):Vals w vb fp es' :=
 let ⟨l,h1,h2,h3⟩:=h
 ⟨l,h1,h2.trans (hp.map _),fun p hm=>h3 p (hp.mem_iff.2 hm)⟩
theorem Vals.look {w:World} {vb:Nat} {fp:List Nat} {es:List (ByteArray × V)} (h:Vals w vb fp es) (k:ByteArray) :
   ∃cs:List Value,(Instr.lookup 81 (.map (some vb)) (.string k) true).run Tryz.prog w=.ok (.tuple #[.agg cs.toArray,.bool (A1 es k).isSome]) w/\RV (off fp w) cs ((A1 es k).getD V.zero)/\((A1 es k).getD V.zero).count<=100000000:=by
 have hz:∀W,(zeroValue 40).run Tryz.prog W=.ok (.agg (Aj 0 ⟨#[]⟩ 0 0 false none 0 0).toArray) W:=fun W=>by kernel_rfl
 obtain ⟨l,h1,h2,h3⟩:=h;have hl:=h1.lookup (P:=Tryz.prog) Tryz.underlying81 Tryz.underlying9 hz k true;simp only [if_true] at hl;cases he:A1 es k with
 | none=>
   have hk:Ao l k=none:=Bs.2 (fun hm=>lookE_none.1 he (h2.mem_iff.1 hm));rw [hk] at hl;exact ⟨_,hl,RV.leaf _ _ _ _ _ _ _ _,by simp [V.zero,V.count,V.countL]⟩
 | some v=>
   obtain ⟨hc,cs,h4,h5⟩:=h3 _ (lookE_mem he);simp only at h4;rw [h4] at hl;exact ⟨cs,hl,h5,hc⟩
theorem Vals.put {w:World} {vb:Nat} {fp:List Nat} {es:List (ByteArray × V)} (h:Vals w vb fp es) (k:ByteArray) (cs:List Value) :
   ∃o,(Instr.mapUpdate 81 (.map (some vb)) (.string k) (.agg cs.toArray)).run Tryz.prog w=.ok () (setB w vb o)/\∀W fp' v,W.heap[vb]?=some o->(∀a u,off fp w a=some u->off fp' W a=some u)->RV (off fp' W) cs v->v.count<=100000000->Vals W vb fp' (putE es k v):=by
 have hnd:=h.nodup;obtain ⟨l,h1,h2,h3⟩:=h;obtain ⟨o,hr,ho⟩:=h1.update (P:=Tryz.prog) Tryz.underlying81 Tryz.underlying9 k (.agg cs.toArray);refine ⟨o,hr,fun W fp' v hW hm hv hc=>⟨_,ho W hW,?_,fun p hp=>?_⟩⟩
 · rw [keys_ains,C9]
   split
   · rename_i hk
     exact h2.trans (touch_perm hnd (h2.mem_iff.1 hk)).symm
   · rename_i hk
     rw [Bn,Dm (fun hm=>hk (h2.mem_iff.2 hm))];exact h2.append_right _
 · rw [alook_ains h1.nodup]
   rcases List.mem_append.1 hp with hp | hp
   · obtain ⟨hp1,hp2⟩:=List.mem_filter.1 hp
     simp at hp2;obtain ⟨hc', cs', h4,h5⟩:=h3 p hp1;exact ⟨hc', cs', by rw [if_neg hp2];exact h4,h5.mono hm⟩
   · simp at hp;subst hp
     exact ⟨hc,cs,by simp,hv⟩
theorem Vals.del {w:World} {vb:Nat} {fp:List Nat} {es:List (ByteArray × V)} (h:Vals w vb fp es) (k:ByteArray) :
   ∃o,(∀T,(Builtin.delete_ #[81,9] T #[.map (some vb),.string k]).run Tryz.prog w=.ok (.tuple #[]) (setB w vb o))/\∀W fp', W.heap[vb]?=some o->(∀a u,off fp w a=some u->off fp' W a=some u)->Vals W vb fp' (es.filter (fun p=>p.1≠k)):=by
 obtain ⟨l,h1,h2,h3⟩:=h;obtain ⟨o,hr,ho⟩:=h1.delete (P:=Tryz.prog) Tryz.underlying81 Tryz.underlying9 k #[81,9] 0 rfl;refine ⟨o,fun T=>hr,fun W fp' hW hm=>⟨_,ho W hW,?_,fun p hp=>?_⟩⟩
 · rw [keys_adel,C8];exact h2.filter _
 · obtain ⟨hp1,hp2⟩:=List.mem_filter.1 hp
   simp at hp2;obtain ⟨hc', cs', h4,h5⟩:=h3 p hp1;exact ⟨hc', cs', by rw [alook_adel _ _ _ hp2];exact h4,h5.mono hm⟩
def Tix (w:World) (tb:Nat) (ts:List (Int × ByteArray)):Prop:=∃l,AMap intKey w tb l/\l.Perm (ts.map fun p=>(p.1,Value.string p.2))
theorem Tix.lt {w:World} {tb:Nat} {ts:List (Int × ByteArray)} (h:Tix w tb ts):tb<w.heap.size:=let ⟨_,h,_⟩:=h;h.lt
theorem tkeys (ts:List (Int × ByteArray)):(ts.map fun p=>(p.1,Value.string p.2)).map (·.1)=ts.map (·.1):=by rw [List.map_map];rfl
theorem Tix.nodup {w:World} {tb:Nat} {ts:List (Int × ByteArray)} (h:Tix w tb ts):(ts.map (·.1)).Nodup:=by
 obtain ⟨l,h1,h2⟩:=h;rw [<-tkeys];exact (h2.map _).nodup_iff.1 h1.nodup
theorem Tix.of_block {w w' : World} {tb:Nat} {ts:List (Int × ByteArray)} (h:Tix w tb ts) (hb:w'.heap[tb]?=w.heap[tb]?):Tix w' tb ts:=let ⟨l,h1,h2⟩:=h;⟨l,h1.of_block hb,h2⟩
theorem alook_tix (ts:List (Int × ByteArray)) (t:Int):Ao (ts.map fun p=>(p.1,Value.string p.2)) t=(Dn ts t).map Value.string:=by
 induction ts with
 | nil=>rfl
 | cons p ts ih=>
   simp only [Ao,Dn,List.map_cons,List.find?_cons] at ih ⊢;by_cases hp:p.1=t
   · simp [hp]
   · simp only [hp,decide_false];exact ih
theorem Tix.look {w:World} {tb:Nat} {ts:List (Int × ByteArray)} (h:Tix w tb ts) (t:Int) :
   (Instr.lookup 82 (.map (some tb)) (.int .i64 t) true).run Tryz.prog w=.ok (.tuple #[.string ((Dn ts t).getD ⟨#[]⟩),.bool (Dn ts t).isSome]) w:=by
 have hz:∀W,(zeroValue 9).run Tryz.prog W=.ok (.string ⟨#[]⟩) W:=fun W=>by kernel_rfl
 have hnd:=h.nodup;obtain ⟨l,h1,h2⟩:=h;have hl:=h1.lookup (P:=Tryz.prog) Tryz.underlying82 Tryz.underlying3 hz t true;simp only [if_true] at hl;rw [E6 h2 h1.nodup,alook_tix] at hl;cases he:Dn ts t<;>rw [he] at hl<;>exact hl
theorem Tix.put {w:World} {tb:Nat} {ts:List (Int × ByteArray)} (h:Tix w tb ts) (t:Int) (k:ByteArray) (ht:t ∉ ts.map (·.1)) :
   ∃o,(Instr.mapUpdate 82 (.map (some tb)) (.int .i64 t) (.string k)).run Tryz.prog w=.ok () (setB w tb o)/\∀W,W.heap[tb]?=some o->Tix W tb (ts++[(t,k)]):=by
 obtain ⟨l,h1,h2⟩:=h;obtain ⟨o,hr,ho⟩:=h1.update (P:=Tryz.prog) Tryz.underlying82 Tryz.underlying3 t (.string k);refine ⟨o,hr,fun W hW=>⟨_,ho W hW,?_⟩⟩;rw [ains,if_neg (fun hm=>ht (by rw [<-tkeys];exact (h2.map _).mem_iff.1 hm)),List.map_append];exact h2.append_right _
theorem Tix.del {w:World} {tb:Nat} {ts:List (Int × ByteArray)} (h:Tix w tb ts) (t:Int) :
   ∃o,(∀T,(Builtin.delete_ #[82,3] T #[.map (some tb),.int .i64 t]).run Tryz.prog w=.ok (.tuple #[]) (setB w tb o))/\∀W,W.heap[tb]?=some o->Tix W tb (ts.filter (fun p=>p.1≠t)):=by
 obtain ⟨l,h1,h2⟩:=h;obtain ⟨o,hr,ho⟩:=h1.delete (P:=Tryz.prog) Tryz.underlying82 Tryz.underlying3 t #[82,3] 0 rfl;refine ⟨o,fun T=>hr,fun W hW=>⟨_,ho W hW,?_⟩⟩;have:adel (ts.map fun p=>(p.1,Value.string p.2)) t=(ts.filter (fun p=>p.1≠t)).map fun p=>(p.1,Value.string p.2):=by rw [adel,List.filter_map];rfl
 rw [<-this];exact h2.filter _
theorem Ga {κ:Type} [DecidableEq κ] {K:KeyEmb κ} {P:Program} {w:World} {m:Nat} {l:List (κ × Value)} (h:AMap K w m l) {t kt e:TypeId} (ht:P.underlying t=some (.map kt e)) (T:TypeId) :
   ∃o,(Builtin.clear_ #[t] T #[.map (some m)]).run P w=.ok (.tuple #[]) (setB w m o)/\∀W,W.heap[m]?=some o->AMap K W m []:=by
 obtain ⟨es,clock,hm,hes,hb,hlt⟩:=h.held;have hu:=run_underlying ht w;have hg:=MapKept.run_getObj_map (P:=P) hm;have hset:=fun o=>MapKept.run_setObj_map (P:=P) o hm;refine ⟨.map #[] clock,?_,fun W hW=>⟨by simp,#[],clock,hW,rfl,by simp,by simp⟩⟩;simp [Builtin.clear_,hu,hg,hset,setB]
theorem setB_fr {w:World} (b:Nat) (o:Obj):Fr (·∈[b]) w (setB w b o):=(Fr.refl _ w).setB (fun _=>by show b∈[b];simp) o
theorem setB_at {w:World} {b:Nat} (o:Obj) (h:b<w.heap.size):(setB w b o).heap[b]?=some o:=Eo (x:=w.heap[b]) (by simp [h])
def Went (w:World) (fp:List Nat) (w' : World) (fp' : List Nat):Prop:=Fr (·∈fp) w w' /\ ∀b∈fp', b∈fp\/w.heap.size<=b
theorem Went.of_below {w w' : World} {fp:List Nat} (h:Below w.heap.size w w'):Went w fp w' fp:=⟨(Fr.of_below h).mono (fun i hi h=>absurd h (by omega)),fun _ h=>Or.inl h⟩
theorem Went.trans {w w1 w2:World} {fp fp1 fp2:List Nat} (h:Went w fp w1 fp1) (k:Went w1 fp1 w2 fp2):Went w fp w2 fp2:=
 ⟨h.1.trans_new k.1 (fun i hi hm=>by rcases h.2 i hm with h1 | h1;exact h1;omega),fun b hb=>by
   rcases k.2 b hb with h1 | h1
   · exact h.2 b h1
   · have:=h.1.size;exact Or.inr (by omega)⟩
def Writ (B:Nat) (w:World) (cs:List Value):Prop:=∀ad n c,cs[5]?=some (.slice (some ad) n c)->ad=⟨ad.block,0,none⟩/\B<=ad.block/\Blk w ad.block
theorem put_perm {es:List (ByteArray × V)} {k:ByteArray} {v:V} (hn:(es.map (·.1)).Nodup) (hm:(k,v)∈es):es.Perm (putE es k v):=by
 obtain ⟨a,b,rfl⟩:=List.append_of_mem hm;have e:(a++(k,v) :: b).filter (fun p=>p.1≠k)=a++b:=by
   rw [List.map_append,List.map_cons,List.nodup_append] at hn;obtain ⟨_,h2,h3⟩:=hn;rw [List.nodup_cons] at h2;rw [List.filter_append,List.filter_cons,if_neg (by simp),List.filter_eq_self.2,List.filter_eq_self.2]
   · intro p hp;have:p.1≠k:=fun e=>h2.1 (by rw [<-e];exact List.mem_map.2 ⟨p,hp,rfl⟩);simpa using this
   · intro p hp;have:p.1≠k:=h3 p.1 (List.mem_map.2 ⟨p,hp,rfl⟩) k (by simp);simpa using this
 rw [putE,e,List.append_assoc];exact List.Perm.append_left _ (List.perm_append_singleton _ _).symm
abbrev agg6 (v:V) (a:Option Addr) (cap:Nat):List Value:=[.int .i64 v.kind,.string v.text,.int .i64 v.int,.float .f64 v.real,.bool v.flag,.slice a v.list.length cap]
abbrev zero6:List Value:=[.int .i64 0,.string ⟨#[]⟩,.int .i64 0,.float .f64 0,.bool false,.slice none 0 0]
def Kept (w w' : World) (nb:Nat):Prop:=∀vb,w.cell? ⟨nb,1,none⟩=some (.map (some vb))->vb<w.heap.size->w'.cell? ⟨nb,1,none⟩=some (.map (some vb))/\w'.heap[vb]?=w.heap[vb]?
theorem Kept.of_below {w w' : World} {nb:Nat} (h:Below w.heap.size w w'):Kept w w' nb:=fun vb hc hv=>⟨Aa h _ _ hc,h.block vb hv⟩
theorem oldest_touch (ks:List ByteArray) (k:ByteArray):Cr k (Bn ks k)=match ks.filter (fun x=>x≠k) with | []=>(ByteArray.empty,false) | x :: _=>(x,true):=by
 rw [Bn];cases h:ks.filter (fun x=>x≠k) with
 | nil=>simp [Cr]
 | cons x l=>
   have:x∈ks.filter (fun x=>x≠k):=by rw [h];simp
   have:=(List.mem_filter.1 this).2;simp at this;simp [Cr,this]
theorem filter_head {es:List (ByteArray × V)} {p:ByteArray × V} {r:List (ByteArray × V)} (hn:(es.map (·.1)).Nodup) (h:es=p :: r):es.filter (fun q=>q.1≠p.1)=r:=by
 subst h;rw [List.map_cons,List.nodup_cons] at hn;rw [List.filter_cons,if_neg (by simp),List.filter_eq_self.2];intro q hq;have:q.1≠p.1:=fun e=>hn.1 (by rw [<-e];exact List.mem_map.2 ⟨q,hq,rfl⟩);simpa using this
theorem AMap.ncell {κ:Type} [DecidableEq κ] {K:KeyEmb κ} {w:World} {m:Nat} {l:List (κ × Value)} (h:AMap K w m l) {a:Addr} {u:Value} (hc:w.cell? a=some u):m≠a.block:=by
 obtain ⟨es,c,hm,_⟩:=h.held;obtain ⟨cs,t,f,hb⟩:=Dp hc;intro e;rw [e,hb] at hm;cases hm
end Go.Proofs.YtfaihaoajdcjbaaGreatDoor
