/- ClientOrders returns true at every input, and leaves the input as it was: the card ClientOrdersCardSaid, with no condition of its own. -/
import Derived.Test.YtfaihaoajdcjbaaGreatDoorCards
import Derived.Test.YtfaihaoajdcjbaaGreatDoorTie
import Derived.Test.YtfaihaoajdcjbaaGreatDoorJ5
import Derived.Test.YtfaihaoajdcjbaaGreatDoorJ25
import Derived.SevenTiedAt
import Derived.Stop.Joined
import Derived.SliceStrings
import Derived.SizedLaws
set_option linter.all false
namespace Go.Proofs.YtfaihaoajdcjbaaGreatDoor.lawClientOrders
open Go.ChangeShapes Go.WideShapes Go.ChangeAt Go.RowKit
theorem Fv {H:Type} {enc:TypeId × Value->H} {P:Program} {w:World} {t e:TypeId} {fuel:Nat} {cs:List Value} {x:DataW H × List MemPlace} (ht:P.underlying t=some (.slice e)) (he:P.underlying e=some .string) (hC:P.cellsOf e=1)
   (h:DataW.trod enc P w 0 (fun _=>true) true fuel t cs=some x) :
   ∃(a:Option Addr) (len cap:Nat) (xs:List ByteArray),cs=[.slice a len cap]/\len<=cap/\len<=9223372036854775807/\Reads w 1 (.slice a len cap) len (xs.map Value.string):=by
 rcases open_strings ht he hC h with ⟨h0,_⟩ | ⟨ad,len', cap', ss,hcs,_,hl,hm,hn,rfl,hat,_⟩
 · exact ⟨none,0,0,[],h0,Nat.le_refl _,by decide,Reads.nil _ _ _ _⟩
 · simp only [if_true] at hn
   refine ⟨some ad,len', cap', ss.take len', hcs,hl,Nat.le_trans hl (Nat.le_trans hm (by decide)),some ad,cap', rfl,by simp;omega,fun j u hj=>?_⟩;have hjl:j<(ss.take len').length:=by have:=(List.getElem?_eq_some_iff.1 hj).1;simpa using this
   have hjs:j<ss.length:=by simp at hjl;omega
   rw [List.getElem?_map,List.getElem?_eq_getElem hjl] at hj;simp only [Option.map_some,Option.some.injEq,List.getElem_take] at hj;subst hj;obtain ⟨b,o,rfl⟩:=add_plain (hat 0 (by omega));refine ⟨b,o,rfl,?_⟩;have:=hat j hjs;rw [add_mk,List.getD_eq_getElem?_getD,List.getElem?_eq_getElem hjs] at this;simpa using this
theorem seven_of {cs:List Value} (h:cs.length=7):∃a b c d e f g,cs=[a,b,c,d,e,f,g]:=by
 match cs,h with
 | [a,b,c,d,e,f,g],_=>exact ⟨a,b,c,d,e,f,g,rfl⟩
theorem open_mode {H:Type} {enc:TypeId × Value->H} {w:World} {fuel:Nat} {cs:List Value} {x:DataW H × List MemPlace} (h:DataW.trod enc Tryz.prog w 0 (fun _=>true) true fuel 24 cs=some x) :
   ∃(m:Md) (a:Option Addr) (n cap:Nat),cs=[.bool m.on,.bool m.bcast,.bool m.optin,.bool m.optout,.bool m.noloop,.int .i64 m.redirect,.slice a n cap]/\n<=cap/\n<=9223372036854775807/\Reads w 1 (.slice a n cap) n (m.prefixes.map Value.string):=by
 obtain ⟨xs,n,rfl,hx,hlen,hxl,hf⟩:=DataW.trod_struct Tryz.underlying24 h;have hC:Tryz.prog.cellsOf 24=7:=by kernel_rfl
 rw [hC] at hlen;obtain ⟨c0,c1,c2,c3,c4,c5,c6,rfl⟩:=seven_of hlen;have hx7:xs.length=7:=hxl;have g:∀i (hi:i<xs.length),xs[i]?=some xs[i]:=fun i hi=>List.getElem?_eq_getElem hi;have key:∀(i:Nat) (f:Field) (c:Value),_->Tryz.prog.cellsOf f.type=1->(([c0,c1,c2,c3,c4,c5,c6]:List Value).drop f.offset).take 1=[c]->DataW.trod enc Tryz.prog w 0 (fun _=>true) true n f.type [c]=xs[i]?:=fun i f c h1 h2 h3=>by
   have:=hf i f h1;rw [h2,h3] at this;exact this
 have f0:DataW.trod enc Tryz.prog w 0 (fun _=>true) true n 4 [c0]=some xs[0]:=(key 0 _ c0 rfl (by kernel_rfl) rfl).trans (g 0 (by omega));have f1:DataW.trod enc Tryz.prog w 0 (fun _=>true) true n 4 [c1]=some xs[1]:=(key 1 _ c1 rfl (by kernel_rfl) rfl).trans (g 1 (by omega));have f2:DataW.trod enc Tryz.prog w 0 (fun _=>true) true n 4 [c2]=some xs[2]:=(key 2 _ c2 rfl (by kernel_rfl) rfl).trans (g 2 (by omega));have f3:DataW.trod enc Tryz.prog w 0 (fun _=>true) true n 4 [c3]=some xs[3]:=(key 3 _ c3 rfl (by kernel_rfl) rfl).trans (g 3 (by omega));have f4:DataW.trod enc Tryz.prog w 0 (fun _=>true) true n 4 [c4]=some xs[4]:=(key 4 _ c4 rfl (by kernel_rfl) rfl).trans (g 4 (by omega));have f5:DataW.trod enc Tryz.prog w 0 (fun _=>true) true n 3 [c5]=some xs[5]:=(key 5 _ c5 rfl (by kernel_rfl) rfl).trans (g 5 (by omega))
 have f6:DataW.trod enc Tryz.prog w 0 (fun _=>true) true n 22 [c6]=some xs[6]:=(key 6 _ c6 rfl (by kernel_rfl) rfl).trans (g 6 (by omega));obtain ⟨b0,e0,_⟩:=DataW.trod_bool Tryz.underlying4 f0;obtain ⟨b1,e1,_⟩:=DataW.trod_bool Tryz.underlying4 f1;obtain ⟨b2,e2,_⟩:=DataW.trod_bool Tryz.underlying4 f2;obtain ⟨b3,e3,_⟩:=DataW.trod_bool Tryz.underlying4 f3;obtain ⟨b4,e4,_⟩:=DataW.trod_bool Tryz.underlying4 f4;obtain ⟨k5,e5,_⟩:=DataW.trod_int Tryz.underlying3 f5;obtain ⟨a,len,cap,ps,e6,hl,hm,hr⟩:=Fv Tryz.underlying22 Tryz.underlying9 (by kernel_rfl) f6;simp only [List.cons.injEq,and_true] at e0 e1 e2 e3 e4 e5 e6;subst e0 e1 e2 e3 e4 e5 e6;exact ⟨⟨b0,b1,b2,b3,b4,k5,ps⟩,a,len,cap,rfl,hl,hm,hr⟩
set_option maxRecDepth 100000 in
theorem walk {H:Type} {enc:TypeId × Value->H} (W:World) (base:Nat) (args:Array Value) (ds:List (DataW H)) (p:List MemPlace)
   (hval:∀(j:Nat) t v,Tryz.f3.params[j]?=some t->args[j]?=some v->Value.okWide Tryz.prog W .any base t v)
   (hA:DataW.TrodAll enc Tryz.prog W 0 (fun _=>true) true Tryz.f3.params.toList args.toList ds p) (hL:laidMetH Tryz.prog Rows.clientOrdersRow.laid W)
   (_:(DataW.weightsEach Tryz.prog (Tryz.f3.params.toList++Rows.clientOrdersSpec.plain.varTypes Tryz.prog) (ds++[])).all (·<=reachBytes)=true) :
   Calls Tryz.prog 3 args W fun e W' => e=.returned (.bool true)/\Below W.heap.size W W' := by
 have hN:Nums W:=nums_of hL (by kernel_rfl) (by kernel_rfl) (by kernel_rfl) (by kernel_rfl);rw [Tryz.params3] at hA hval;obtain ⟨v0,vs0,d0,ds0,p0,q0,hargs,rfl,rfl,h0,r0⟩:=trodAll_cons hA;obtain ⟨v1,vs1,d1,ds1,p1,q1,rfl,rfl,rfl,h1,r1⟩:=trodAll_cons r0;obtain ⟨rfl,rfl,rfl⟩:=trodAll_nil r1;obtain rfl:args=#[v0,v1]:=by cases args;simp_all
 obtain ⟨cs,rfl,_⟩:=okWide_struct Tryz.underlying24 (hval 0 24 v0 rfl rfl);obtain ⟨a1,len1,cap1,rfl⟩:=okWide_slice Tryz.underlying22 (hval 1 22 v1 rfl rfl);obtain ⟨fuel,hf⟩:=h0;obtain ⟨fuel', hf'⟩:=h1;obtain ⟨m,a,n,cap,hcs,hl,hm,hr⟩:=open_mode hf;obtain ⟨a', n', cap', keys,hcs', hl', hm', hr'⟩:=Fv Tryz.underlying22 Tryz.underlying9 (by kernel_rfl) hf';obtain rfl:cs=#[.bool m.on,.bool m.bcast,.bool m.optin,.bool m.optout,.bool m.noloop,.int .i64 m.redirect,.slice a n cap]:=Array.toList_inj.1 hcs;have hcs2:[Value.slice a1 len1 cap1]=[.slice a' n' cap']:=hcs';obtain ⟨rfl,rfl,rfl⟩:a1=a' /\ len1=n' /\ cap1=cap' := by simpa using hcs2
 exact corders_any hN hr hl hm hr' hm'
end Go.Proofs.YtfaihaoajdcjbaaGreatDoor.lawClientOrders
namespace Go.Proofs.YtfaihaoajdcjbaaGreatDoor.lawClientOrders
open Go.ChangeShapes Go.WideShapes Go.ChangeAt Go.RowKit
theorem own:ownKnob Tryz.prog.godebug=none:=by kernel_rfl
theorem laidOut:laidOutB Tryz.prog=true:=by kernel_rfl
theorem argsOk:(Tryz.f3.params.toList.all fun t=>Tryz.prog.readableRec t && decide (t<Tryz.prog.types.size))=true:=by kernel_rfl
set_option maxHeartbeats 100000000 in
theorem closed:joinedFacts Tryz.prog 3 Tryz.f3 Rows.clientOrdersSpec Rows.clientOrdersRow=true:=by
 unfold joinedFacts
 repeat' (with_reducible refine (Bool.and_eq_true _ _).mpr ⟨?_,?_⟩)
 all_goals (as_aux_lemma=>kernel_rfl)
set_option maxRecDepth 100000 in
theorem lifted (os:Os) (started:os.Started) (H:Type) (enc:TypeId × Value->H) :
   ReturnsInHanded {} Tryz.checked os 3 .any (fun w args=>(Rows.clientOrdersSpec.pre enc Tryz.prog Tryz.f3 Rows.clientOrdersRow.domain false w args/\laidMetH Tryz.prog Rows.clientOrdersRow.laid w)/\sizedMet enc Tryz.prog Tryz.f3 (OpenSpec.ofChange Rows.clientOrdersSpec) false w args)
     (Rows.clientOrdersSpec.post enc Tryz.prog Tryz.f3 false true false false):=by
 refine returnsInHanded_of_change_and (C:=Tryz.checked) (X:=fun w _=>laidMetH Tryz.prog Rows.clientOrdersRow.laid w) (fun _ _ _ hh h=>h.of_heap hh) own started (by kernel_rfl) Tryz.func3
   (ChangeSpec.witness_shaped (enc:=enc) (C:=Tryz.checked) (os:=os) (X:=fun w _=>laidMetH Tryz.prog Rows.clientOrdersRow.laid w) false (World.laidAll Tryz.prog os Rows.clientOrdersRow.laid) #[.agg #[.bool false,.bool false,.bool false,.bool false,.bool false,.int .i64 0,.slice none 0 0],.slice none 0 0] 8 (World.laidAll_os _ _ _)
     (World.shaped_of_ZipB (by kernel_rfl) (by kernel_rfl)) (by kernel_rfl) (by kernel_rfl) (by kernel_rfl)
     (by rw [MakeChecks.laidMetH_plain _ _ _ (by kernel_rfl)];exact laidMet_laidAll _ (by kernel_rfl) (by kernel_rfl))) ?_
 intro W base args ds gs before hval0 hW hc hR hL _;have hval:∀(j:Nat) t v,Tryz.f3.params[j]?=some t->args[j]?=some v->Value.okWide Tryz.prog W .any base t v:=hval0;have hW' := hW;obtain ⟨p,q,hA0,hV,rfl,hfz,hnd⟩:=hW;have hA:DataW.TrodAll enc Tryz.prog W 0 (fun _=>true) true Tryz.f3.params.toList args.toList ds p:=hA0;obtain ⟨rfl,rfl⟩:=trodVars_none hV;clear hA0 hval0;refine (walk W base args ds p hval hA hL hR).mono fun e W' ⟨he,bel⟩=>?_;subst he;have hargs:(Rows.clientOrdersSpec.fn H (ds++[])).results=[.lit (.bool true)]/\(Rows.clientOrdersSpec.fn H (ds++[])).args=ds/\(Rows.clientOrdersSpec.fn H (ds++[])).vars=[]:=by
   rw [Tryz.params3] at hA;obtain ⟨v0,vs0,d0,ds0,p0,q0,hargs,rfl,rfl,h0,r0⟩:=trodAll_cons hA;obtain ⟨v1,vs1,d1,ds1,p1,q1,rfl,rfl,rfl,h1,r1⟩:=trodAll_cons r0;obtain ⟨rfl,rfl,rfl⟩:=trodAll_nil r1;exact ⟨rfl,rfl,rfl⟩
 obtain ⟨hr1,hr2,hr3⟩:=hargs;refine ⟨_,rfl,ds,[],_,[],p,[],hW', ?_,?_,by rw [hr3];rfl,bel.frame _,fun h=>by cases h⟩
 · rw [hr1];exact trodAll_mk1 (shut_bool Tryz.underlying4 _)
 · rw [hr2];exact Dr laidOut bel argsOk hA
theorem holds:Rows.ClientOrdersSaid:=
 OpenClaim.holds_of_wide 3 Tryz.f3 rfl rfl rfl rfl rfl rfl rfl ⟨rfl,rfl,rfl,rfl,rfl⟩ rfl rfl rfl rfl rfl (by kernel_rfl) Tryz.func3 closed
   (of_decide_eq_true (by kernel_rfl)) (by unfold Func.isWrapper;first | (rw [if_pos (by decide +kernel)];kernel_rfl) | (rw [if_neg (by decide +kernel)];exact ⟨rfl,rfl⟩))
   (fun os started H enc _=>lifted os started H enc)
theorem proved:Rows.ClientOrdersCardSaid:=
 Claim7.holds_tied_plain_at .later [] [.data,.data,.widerDeep,.widerDeep,.data,.data,.data,.data,.data,.data,.sentinel,.sentinel,.pinned,.pinned,.pinned] true Rows.clientOrdersCard.stood.harness true holds (fun _ h=>by cases h) (by as_aux_lemma=>kernel_rfl) (fun _ h=>by cases h) clientOrders_row_tie rfl ⟨rfl,rfl⟩ (by as_aux_lemma=>kernel_rfl) rfl
   (fun f fn hf hfn=>by
     obtain rfl : f = 3 := Option.some.inj ((show Tryz.prog.funcNamed "nearhand/nearhandlaw24.ClientOrders" = some 3 by as_aux_lemma => kernel_rfl).symm.trans hf) |>.symm;obtain rfl:fn=Tryz.f3:=(Option.some.inj (Tryz.func3.symm.trans hfn)).symm;exact ⟨by as_aux_lemma=>kernel_rfl,fun j t ht=>by
       rw [Tryz.params3] at ht;have hm:t∈([24,22]:List TypeId):=by simpa using Array.mem_of_getElem? ht
       have hall:(([24,22]:List TypeId).all fun u=>!Tryz.prog.wantsStandIn u)=true:=by as_aux_lemma=>kernel_rfl
       exact (show Tryz.prog.wantsStandIn t=false by simpa using List.all_eq_true.1 hall t hm)⟩)
   (by as_aux_lemma=>kernel_rfl)
#print axioms proved
end Go.Proofs.YtfaihaoajdcjbaaGreatDoor.lawClientOrders
