/- ClientNames returns true at every input, and leaves the input as it was: the card ClientNamesCardSaid, with no condition of its own. -/
import Derived.Test.YtfaihaoajdcjbaaGreatDoorCards
import Derived.Test.YtfaihaoajdcjbaaGreatDoorTie
import Derived.Test.YtfaihaoajdcjbaaGreatDoorJ3
import Derived.Test.YtfaihaoajdcjbaaGreatDoorJ27
import Derived.SevenTiedAt
import Derived.Stop.Joined
import Derived.SizedLaws
set_option linter.all false
namespace Go.Proofs.YtfaihaoajdcjbaaGreatDoor.lawClientNames
open Go.ChangeShapes Go.WideShapes Go.ChangeAt Go.RowKit
set_option maxRecDepth 100000 in
theorem walk {H:Type} {enc:TypeId × Value->H} (W:World) (base:Nat) (args:Array Value) (ds:List (DataW H)) (p:List MemPlace)
   (hval:∀(j:Nat) t v,Tryz.f4.params[j]?=some t->args[j]?=some v->Value.okWide Tryz.prog W .any base t v)
   (hA:DataW.TrodAll enc Tryz.prog W 0 (fun _=>true) true Tryz.f4.params.toList args.toList ds p) (hL:laidMetH Tryz.prog Rows.clientNamesRow.laid W)
   (_:(DataW.weightsEach Tryz.prog (Tryz.f4.params.toList++Rows.clientNamesSpec.plain.varTypes Tryz.prog) (ds++[])).all (·<=reachBytes)=true) :
   Calls Tryz.prog 4 args W fun e W' => e=.returned (.bool true)/\Below W.heap.size W W' := by
 have hN:Nums W:=nums_of hL (by kernel_rfl) (by kernel_rfl) (by kernel_rfl) (by kernel_rfl);rw [Tryz.params4] at hA hval;obtain ⟨hargs,rfl,rfl⟩:=trodAll_nil hA;obtain rfl:args=#[]:=by cases args;simp_all
 exact cnames_any hN
end Go.Proofs.YtfaihaoajdcjbaaGreatDoor.lawClientNames
namespace Go.Proofs.YtfaihaoajdcjbaaGreatDoor.lawClientNames
open Go.ChangeShapes Go.WideShapes Go.ChangeAt Go.RowKit
theorem own:ownKnob Tryz.prog.godebug=none:=by kernel_rfl
theorem laidOut:laidOutB Tryz.prog=true:=by kernel_rfl
theorem argsOk:(Tryz.f4.params.toList.all fun t=>Tryz.prog.readableRec t && decide (t<Tryz.prog.types.size))=true:=by kernel_rfl
set_option maxHeartbeats 100000000 in
theorem closed:joinedFacts Tryz.prog 4 Tryz.f4 Rows.clientNamesSpec Rows.clientNamesRow=true:=by
 unfold joinedFacts
 repeat' (with_reducible refine (Bool.and_eq_true _ _).mpr ⟨?_,?_⟩)
 all_goals (as_aux_lemma=>kernel_rfl)
set_option maxRecDepth 100000 in
theorem lifted (os:Os) (started:os.Started) (H:Type) (enc:TypeId × Value->H) :
   ReturnsInHanded {} Tryz.checked os 4 .any (fun w args=>(Rows.clientNamesSpec.pre enc Tryz.prog Tryz.f4 Rows.clientNamesRow.domain false w args/\laidMetH Tryz.prog Rows.clientNamesRow.laid w)/\sizedMet enc Tryz.prog Tryz.f4 (OpenSpec.ofChange Rows.clientNamesSpec) false w args)
     (Rows.clientNamesSpec.post enc Tryz.prog Tryz.f4 false true false false):=by
 refine returnsInHanded_of_change_and (C:=Tryz.checked) (X:=fun w _=>laidMetH Tryz.prog Rows.clientNamesRow.laid w) (fun _ _ _ hh h=>h.of_heap hh) own started (by kernel_rfl) Tryz.func4
   (ChangeSpec.witness_shaped (enc:=enc) (C:=Tryz.checked) (os:=os) (X:=fun w _=>laidMetH Tryz.prog Rows.clientNamesRow.laid w) false (World.laidAll Tryz.prog os Rows.clientNamesRow.laid) #[] 8 (World.laidAll_os _ _ _)
     (World.shaped_of_ZipB (by kernel_rfl) (by kernel_rfl)) (by kernel_rfl) (by kernel_rfl) (by kernel_rfl)
     (by rw [MakeChecks.laidMetH_plain _ _ _ (by kernel_rfl)];exact laidMet_laidAll _ (by kernel_rfl) (by kernel_rfl))) ?_
 intro W base args ds gs before hval0 hW hc hR hL _;have hval:∀(j:Nat) t v,Tryz.f4.params[j]?=some t->args[j]?=some v->Value.okWide Tryz.prog W .any base t v:=hval0;have hW' := hW;obtain ⟨p,q,hA0,hV,rfl,hfz,hnd⟩:=hW;have hA:DataW.TrodAll enc Tryz.prog W 0 (fun _=>true) true Tryz.f4.params.toList args.toList ds p:=hA0;obtain ⟨rfl,rfl⟩:=trodVars_none hV;clear hA0 hval0;refine (walk W base args ds p hval hA hL hR).mono fun e W' ⟨he,bel⟩=>?_;subst he;have hargs:(Rows.clientNamesSpec.fn H (ds++[])).results=[.lit (.bool true)]/\(Rows.clientNamesSpec.fn H (ds++[])).args=ds/\(Rows.clientNamesSpec.fn H (ds++[])).vars=[]:=by
   rw [Tryz.params4] at hA;obtain ⟨hargs,rfl,rfl⟩:=trodAll_nil hA;exact ⟨rfl,rfl,rfl⟩
 obtain ⟨hr1,hr2,hr3⟩:=hargs;refine ⟨_,rfl,ds,[],_,[],p,[],hW', ?_,?_,by rw [hr3];rfl,bel.frame _,fun h=>by cases h⟩
 · rw [hr1];exact trodAll_mk1 (shut_bool Tryz.underlying4 _)
 · rw [hr2];exact Dl laidOut bel argsOk hA
theorem holds:Rows.ClientNamesSaid:=
 OpenClaim.holds_of_wide 4 Tryz.f4 rfl rfl rfl rfl rfl rfl rfl ⟨rfl,rfl,rfl,rfl,rfl⟩ rfl rfl rfl rfl rfl (by kernel_rfl) Tryz.func4 closed
   (of_decide_eq_true (by kernel_rfl)) (by unfold Func.isWrapper;first | (rw [if_pos (by decide +kernel)];kernel_rfl) | (rw [if_neg (by decide +kernel)];exact ⟨rfl,rfl⟩))
   (fun os started H enc _=>lifted os started H enc)
theorem proved:Rows.ClientNamesCardSaid:=
 Claim7.holds_tied_plain_at .later [] [.data,.data,.widerDeep,.widerDeep,.data,.data,.data,.data,.data,.data,.sentinel,.sentinel,.pinned,.pinned,.pinned,.pinned] true Rows.clientNamesCard.stood.harness true holds (fun _ h=>by cases h) (by as_aux_lemma=>kernel_rfl) (fun _ h=>by cases h) clientNames_row_tie rfl ⟨rfl,rfl⟩ (by as_aux_lemma=>kernel_rfl) rfl
   (fun f fn hf hfn=>by
     obtain rfl : f = 4 := Option.some.inj ((show Tryz.prog.funcNamed "nearhand/nearhandlaw24.ClientNames" = some 4 by as_aux_lemma => kernel_rfl).symm.trans hf) |>.symm;obtain rfl:fn=Tryz.f4:=(Option.some.inj (Tryz.func4.symm.trans hfn)).symm;exact ⟨by as_aux_lemma=>kernel_rfl,fun j t ht=>by
       rw [Tryz.params4] at ht;have hm:t∈([]:List TypeId):=by simpa using Array.mem_of_getElem? ht
       have hall:(([]:List TypeId).all fun u=>!Tryz.prog.wantsStandIn u)=true:=by as_aux_lemma=>kernel_rfl
       exact (show Tryz.prog.wantsStandIn t=false by simpa using List.all_eq_true.1 hall t hm)⟩)
   (by as_aux_lemma=>kernel_rfl)
#print axioms proved
end Go.Proofs.YtfaihaoajdcjbaaGreatDoor.lawClientNames
