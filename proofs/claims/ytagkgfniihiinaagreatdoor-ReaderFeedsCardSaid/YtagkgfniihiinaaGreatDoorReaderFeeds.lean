/- ReaderFeeds returns true at every input, and leaves the input as it was: the card ReaderFeedsCardSaid, with no condition of its own. -/
import Derived.Test.YtagkgfniihiinaaGreatDoorCards
import Derived.Test.YtagkgfniihiinaaGreatDoorTie
import Derived.Test.YtagkgfniihiinaaGreatDoorJ77
import Derived.Test.YtagkgfniihiinaaGreatDoorJ58
import Derived.Test.YtagkgfniihiinaaGreatDoorJ84
import Derived.SevenTiedAt
import Derived.Stop.Joined
import Derived.SizedLaws
set_option linter.all false
namespace Go.Proofs.YtagkgfniihiinaaGreatDoor.lawReaderFeeds
open Go.ChangeShapes Go.WideShapes Go.ChangeAt Go.RowKit
set_option maxRecDepth 100000 in
theorem walk {H:Type} {enc:TypeId × Value->H} (W:World) (base:Nat) (args:Array Value) (ds:List (DataW H)) (p:List MemPlace)
   (hval:∀(j:Nat) t v,Tryz.f9.params[j]?=some t->args[j]?=some v->Value.okWide Tryz.prog W .any base t v)
   (hA:DataW.TrodAll enc Tryz.prog W 0 (fun _=>true) true Tryz.f9.params.toList args.toList ds p) (hL:laidMetH Tryz.prog Rows.readerFeedsRow.laid W)
   (_:(DataW.weightsEach Tryz.prog (Tryz.f9.params.toList++Rows.readerFeedsSpec.plain.varTypes Tryz.prog) (ds++[])).all (·<=reachBytes)=true) :
   Calls Tryz.prog 9 args W fun e W' => e=.returned (.bool true)/\Below W.heap.size W W' := by
 have hN:Nums W:=nums_of hL (by kernel_rfl) (by kernel_rfl) (by kernel_rfl) (by kernel_rfl)
 have hF:Flo W:=floF_of hL (by kernel_rfl) (by kernel_rfl) (by kernel_rfl)
 have hP:Par W:=par_of hL (by kernel_rfl) (by kernel_rfl) (by kernel_rfl) (by kernel_rfl)
 have hR:Rng W:=rng_of hL (by kernel_rfl) (by kernel_rfl)
 have hS:Slow W:=slow_of hL (by kernel_rfl) (by kernel_rfl) (by kernel_rfl) (by kernel_rfl)
 have hY:Lay W:=⟨hP,hF.1,hS,hR⟩
 rw [Tryz.params9] at hA hval
 obtain ⟨v0,vs0,d0,ds0,p0,q0,hargs,rfl,rfl,h0,r0⟩:=trodAll_cons hA
 obtain ⟨v1,vs1,d1,ds1,p1,q1,rfl,rfl,rfl,h1,r1⟩:=trodAll_cons r0
 obtain ⟨rfl,rfl,rfl⟩:=trodAll_nil r1
 obtain rfl:args=#[v0,v1]:=by cases args;simp_all
 obtain ⟨am,nm,cm,rfl⟩:=okWide_slice Tryz.underlying27 (hval 0 27 v0 rfl rfl)
 obtain ⟨fuel,hf⟩:=h0
 obtain ⟨_,hcm,sm,hsm,hby⟩:=open_bytesC hf
 obtain ⟨az,nz,cz,rfl⟩:=okWide_slice Tryz.underlying49 (hval 1 49 v1 rfl rfl)
 obtain ⟨fuel1,hf1⟩:=h1
 obtain ⟨zs,hzs,hz⟩:=open_intsF hf1
 rw [<-hsm] at hcm ⊢
 rw [<-hzs]
 exact feedsL_any am sm cm az zs cz W hby hcm hz hN hY
end Go.Proofs.YtagkgfniihiinaaGreatDoor.lawReaderFeeds
namespace Go.Proofs.YtagkgfniihiinaaGreatDoor.lawReaderFeeds
open Go.ChangeShapes Go.WideShapes Go.ChangeAt Go.RowKit
theorem own:ownKnob Tryz.prog.godebug=none:=by kernel_rfl
theorem laidOut:laidOutB Tryz.prog=true:=by kernel_rfl
theorem argsOk:(Tryz.f9.params.toList.all fun t=>Tryz.prog.readableRec t && decide (t<Tryz.prog.types.size))=true:=by kernel_rfl
set_option maxHeartbeats 100000000 in
theorem closed:joinedFacts Tryz.prog 9 Tryz.f9 Rows.readerFeedsSpec Rows.readerFeedsRow=true:=by
 unfold joinedFacts
 repeat' (with_reducible refine (Bool.and_eq_true _ _).mpr ⟨?_,?_⟩)
 all_goals (as_aux_lemma=>kernel_rfl)
set_option maxRecDepth 100000 in
theorem lifted (os:Os) (started:os.Started) (H:Type) (enc:TypeId × Value->H) :
   ReturnsInHanded {} Tryz.checked os 9 .any (fun w args=>(Rows.readerFeedsSpec.pre enc Tryz.prog Tryz.f9 Rows.readerFeedsRow.domain false w args/\laidMetH Tryz.prog Rows.readerFeedsRow.laid w)/\sizedMet enc Tryz.prog Tryz.f9 (OpenSpec.ofChange Rows.readerFeedsSpec) false w args)
     (Rows.readerFeedsSpec.post enc Tryz.prog Tryz.f9 false true false false):=by
 refine returnsInHanded_of_change_and (C:=Tryz.checked) (X:=fun w _=>laidMetH Tryz.prog Rows.readerFeedsRow.laid w) (fun _ _ _ hh h=>h.of_heap hh) own started (by kernel_rfl) Tryz.func9
   (ChangeSpec.witness_shaped (enc:=enc) (C:=Tryz.checked) (os:=os) (X:=fun w _=>laidMetH Tryz.prog Rows.readerFeedsRow.laid w) false (World.laidAll Tryz.prog os Rows.readerFeedsRow.laid) #[.slice none 0 0,.slice none 0 0] 8 (World.laidAll_os _ _ _)
     (World.shaped_of_ZipB (by kernel_rfl) (by kernel_rfl)) (by kernel_rfl) (by kernel_rfl) (by kernel_rfl)
     (by rw [MakeChecks.laidMetH_plain _ _ _ (by kernel_rfl)];exact laidMet_laidAll _ (by kernel_rfl) (by kernel_rfl))) ?_
 intro W base args ds gs before hval0 hW hc hR hL _
 have hval:∀(j:Nat) t v,Tryz.f9.params[j]?=some t->args[j]?=some v->Value.okWide Tryz.prog W .any base t v:=hval0
 have hW' := hW
 obtain ⟨p,q,hA0,hV,rfl,hfz,hnd⟩:=hW
 have hA:DataW.TrodAll enc Tryz.prog W 0 (fun _=>true) true Tryz.f9.params.toList args.toList ds p:=hA0
 obtain ⟨rfl,rfl⟩:=trodVars_none hV
 clear hA0 hval0
 refine (walk W base args ds p hval hA hL hR).mono fun e W' ⟨he,bel⟩=>?_
 subst he
 have hargs:(Rows.readerFeedsSpec.fn H (ds++[])).results=[.lit (.bool true)]/\(Rows.readerFeedsSpec.fn H (ds++[])).args=ds/\(Rows.readerFeedsSpec.fn H (ds++[])).vars=[]:=by
   rw [Tryz.params9] at hA;obtain ⟨v0,vs0,d0,ds0,p0,q0,hargs,rfl,rfl,h0,r0⟩:=trodAll_cons hA;obtain ⟨v1,vs1,d1,ds1,p1,q1,rfl,rfl,rfl,h1,r1⟩:=trodAll_cons r0;obtain ⟨rfl,rfl,rfl⟩:=trodAll_nil r1;exact ⟨rfl,rfl,rfl⟩
 obtain ⟨hr1,hr2,hr3⟩:=hargs
 refine ⟨_,rfl,ds,[],_,[],p,[],hW', ?_,?_,by rw [hr3];rfl,bel.frame _,fun h=>by cases h⟩
 · rw [hr1];exact trodAll_mk1 (shut_bool Tryz.underlying4 _)
 · rw [hr2];exact F2 laidOut bel argsOk hA
theorem holds:Rows.ReaderFeedsSaid:=
 OpenClaim.holds_of_wide 9 Tryz.f9 rfl rfl rfl rfl rfl rfl rfl ⟨rfl,rfl,rfl,rfl,rfl⟩ rfl rfl rfl rfl rfl (by kernel_rfl) Tryz.func9 closed
   (of_decide_eq_true (by kernel_rfl)) (by unfold Func.isWrapper;first | (rw [if_pos (by decide +kernel)];kernel_rfl) | (rw [if_neg (by decide +kernel)];exact ⟨rfl,rfl⟩))
   (fun os started H enc _=>lifted os started H enc)
theorem proved:Rows.ReaderFeedsCardSaid:=
 Claim7.holds_tied_plain_at .later [] [.data,.data,.widerDeep,.widerDeep,.data,.data,.data,.data,.data,.data,.sentinel,.sentinel,.pinned,.pinned,.pinned] true Rows.readerFeedsCard.stood.harness true holds (fun _ h=>by cases h) (by as_aux_lemma=>kernel_rfl) (fun _ h=>by cases h) readerFeeds_row_tie rfl ⟨rfl,rfl⟩ (by as_aux_lemma=>kernel_rfl) rfl
   (fun f fn hf hfn=>by
     obtain rfl : f = 9 := Option.some.inj ((show Tryz.prog.funcNamed "nearhand/nearhandlaw05.ReaderFeeds" = some 9 by as_aux_lemma => kernel_rfl).symm.trans hf) |>.symm;obtain rfl:fn=Tryz.f9:=(Option.some.inj (Tryz.func9.symm.trans hfn)).symm;exact ⟨by as_aux_lemma=>kernel_rfl,fun j t ht=>by
       rw [Tryz.params9] at ht;have hm:t∈([27,49]:List TypeId):=by simpa using Array.mem_of_getElem? ht
       have hall:(([27,49]:List TypeId).all fun u=>!Tryz.prog.wantsStandIn u)=true:=by as_aux_lemma=>kernel_rfl
       exact (show Tryz.prog.wantsStandIn t=false by simpa using List.all_eq_true.1 hall t hm)⟩)
   (by as_aux_lemma=>kernel_rfl)
#print axioms proved
end Go.Proofs.YtagkgfniihiinaaGreatDoor.lawReaderFeeds
