/- ItemNumbers returns true at every input, and leaves the input as it was: the card ItemNumbersCardSaid, with no condition of its own. -/
import Derived.Test.YteoalcmhdoopnaaGreatDoorCards
import Derived.Test.YteoalcmhdoopnaaGreatDoorTie
import Derived.Test.YteoalcmhdoopnaaGreatDoorJ15
import Derived.Test.YteoalcmhdoopnaaGreatDoorJ59
import Derived.SevenTiedAt
import Derived.Stop.Joined
import Derived.SizedLaws
namespace Go.Proofs.YteoalcmhdoopnaaGreatDoor.lawItemNumbers
open Go.ChangeShapes Go.WideShapes Go.ChangeAt Go.RowKit
theorem u64_of {m:Int} (h:(Lit.int .u64 m).wf=true):∃a:Nat,m=(a:Int)/\a<18446744073709551616:=by
 rw [Lit.wf,Bool.and_eq_true,decide_eq_true_eq,decide_eq_true_eq] at h;obtain ⟨h0,h1⟩:=h;have e0:IntKind.u64.min=0:=by rfl
 have e1:IntKind.u64.max=18446744073709551615:=by rfl
 rw [e0] at h0;rw [e1] at h1;exact ⟨m.toNat,by omega,by omega⟩
set_option maxRecDepth 100000 in
theorem walk {H:Type} {enc:TypeId × Value->H} (W:World) (base:Nat) (args:Array Value) (ds:List (DataW H)) (p:List MemPlace)
   (hval:∀(j:Nat) t v,Tryz.f3.params[j]?=some t->args[j]?=some v->Value.okWide Tryz.prog W .any base t v)
   (hA:DataW.TrodAll enc Tryz.prog W 0 (fun _=>true) true Tryz.f3.params.toList args.toList ds p) (hL:laidMetH Tryz.prog Rows.itemNumbersRow.laid W)
   (_:(DataW.weightsEach Tryz.prog (Tryz.f3.params.toList++Rows.itemNumbersSpec.plain.varTypes Tryz.prog) (ds++[])).all (·<=reachBytes)=true) :
   Calls Tryz.prog 3 args W fun e W' => e=.returned (.bool true)/\Below W.heap.size W W' := by
 have hN:Nums W:=nums_of hL (by kernel_rfl) (by kernel_rfl) (by kernel_rfl) (by kernel_rfl)
 have hF:Flo W:=flo_of hL (by kernel_rfl) (by kernel_rfl) (by kernel_rfl)
 have hP:Par W:=par_of hL (by kernel_rfl) (by kernel_rfl) (by kernel_rfl) (by kernel_rfl)
 have hR:Rng W:=rng_of hL (by kernel_rfl) (by kernel_rfl)
 have hS:Slow W:=slow_of hL (by kernel_rfl) (by kernel_rfl) (by kernel_rfl) (by kernel_rfl)
 rw [Tryz.params3] at hA hval
 obtain ⟨v0,vs0,d0,ds0,p0,q0,hargs,rfl,rfl,h0,r0⟩:=trodAll_cons hA
 obtain ⟨v1,vs1,d1,ds1,p1,q1,rfl,rfl,rfl,h1,r1⟩:=trodAll_cons r0
 obtain ⟨v2,vs2,d2,ds2,p2,q2,rfl,rfl,rfl,h2,r2⟩:=trodAll_cons r1
 obtain ⟨rfl,rfl,rfl⟩:=trodAll_nil r2
 obtain rfl:args=#[v0,v1,v2]:=by cases args;simp_all
 obtain ⟨cs,rfl,_⟩:=okWide_struct Tryz.underlying24 (hval 0 24 v0 rfl rfl)
 obtain ⟨m,rfl,rfl,rfl,hm0⟩:=open_int Tryz.underlying2 (hval 1 2 v1 rfl rfl) h1
 obtain ⟨m1,rfl,rfl,rfl,hw1⟩:=open_int Tryz.underlying25 (hval 2 25 v2 rfl rfl) h2
 obtain ⟨y,rfl,hy⟩:=u64_of hw1
 obtain ⟨fuel,hf⟩:=h0
 obtain ⟨k,t,a,n,cap,fs,hcs,hr⟩:=open_item hf
 obtain rfl:cs=#[.int .i64 k,.string t,.slice a n cap]:=Array.toList_inj.1 hcs
 rw [Lit.wf,Bool.and_eq_true,decide_eq_true_eq,decide_eq_true_eq] at hm0
 exact numbersL_any k t a n cap fs m y W ⟨hm0.1,hm0.2⟩ hy hr hN ⟨hP,hF.1,hS,hR⟩ hF
end Go.Proofs.YteoalcmhdoopnaaGreatDoor.lawItemNumbers
namespace Go.Proofs.YteoalcmhdoopnaaGreatDoor.lawItemNumbers
open Go.ChangeShapes Go.WideShapes Go.ChangeAt Go.RowKit
theorem own:ownKnob Tryz.prog.godebug=none:=by kernel_rfl
theorem laidOut:laidOutB Tryz.prog=true:=by kernel_rfl
theorem argsOk:(Tryz.f3.params.toList.all fun t=>Tryz.prog.readableRec t && decide (t<Tryz.prog.types.size))=true:=by kernel_rfl
set_option maxHeartbeats 100000000 in
theorem closed:joinedFacts Tryz.prog 3 Tryz.f3 Rows.itemNumbersSpec Rows.itemNumbersRow=true:=by
 unfold joinedFacts
 repeat' (with_reducible refine (Bool.and_eq_true _ _).mpr ⟨?_,?_⟩)
 all_goals (as_aux_lemma=>kernel_rfl)
set_option maxRecDepth 100000 in
theorem lifted (os:Os) (started:os.Started) (H:Type) (enc:TypeId × Value->H) :
   ReturnsInHanded {} Tryz.checked os 3 .any (fun w args=>(Rows.itemNumbersSpec.pre enc Tryz.prog Tryz.f3 Rows.itemNumbersRow.domain false w args/\laidMetH Tryz.prog Rows.itemNumbersRow.laid w)/\sizedMet enc Tryz.prog Tryz.f3 (OpenSpec.ofChange Rows.itemNumbersSpec) false w args)
     (Rows.itemNumbersSpec.post enc Tryz.prog Tryz.f3 false true false false):=by
 refine returnsInHanded_of_change_and (C:=Tryz.checked) (X:=fun w _=>laidMetH Tryz.prog Rows.itemNumbersRow.laid w) (fun _ _ _ hh h=>h.of_heap hh) own started (by kernel_rfl) Tryz.func3
   (ChangeSpec.witness_shaped (enc:=enc) (C:=Tryz.checked) (os:=os) (X:=fun w _=>laidMetH Tryz.prog Rows.itemNumbersRow.laid w) false (World.laidAll Tryz.prog os Rows.itemNumbersRow.laid) #[.agg #[.int .i64 0,.string ⟨#[]⟩,.slice none 0 0],.int .i64 0,.int .u64 0] 8 (World.laidAll_os _ _ _)
     (World.shaped_of_ZipB (by kernel_rfl) (by kernel_rfl)) (by kernel_rfl) (by kernel_rfl) (by kernel_rfl)
     (by rw [MakeChecks.laidMetH_plain _ _ _ (by kernel_rfl)];exact laidMet_laidAll _ (by kernel_rfl) (by kernel_rfl))) ?_
 intro W base args ds gs before hval0 hW hc hR hL _
 have hval:∀(j:Nat) t v,Tryz.f3.params[j]?=some t->args[j]?=some v->Value.okWide Tryz.prog W .any base t v:=hval0
 have hW' := hW
 obtain ⟨p,q,hA0,hV,rfl,hfz,hnd⟩:=hW
 have hA:DataW.TrodAll enc Tryz.prog W 0 (fun _=>true) true Tryz.f3.params.toList args.toList ds p:=hA0
 obtain ⟨rfl,rfl⟩:=trodVars_none hV
 clear hA0 hval0
 refine (walk W base args ds p hval hA hL hR).mono fun e W' ⟨he,bel⟩=>?_
 subst he
 have hargs:(Rows.itemNumbersSpec.fn H (ds++[])).results=[.lit (.bool true)]/\(Rows.itemNumbersSpec.fn H (ds++[])).args=ds/\(Rows.itemNumbersSpec.fn H (ds++[])).vars=[]:=by
   rw [Tryz.params3] at hA;obtain ⟨v0,vs0,d0,ds0,p0,q0,hargs,rfl,rfl,h0,r0⟩:=trodAll_cons hA;obtain ⟨v1,vs1,d1,ds1,p1,q1,rfl,rfl,rfl,h1,r1⟩:=trodAll_cons r0;obtain ⟨v2,vs2,d2,ds2,p2,q2,rfl,rfl,rfl,h2,r2⟩:=trodAll_cons r1;obtain ⟨rfl,rfl,rfl⟩:=trodAll_nil r2;exact ⟨rfl,rfl,rfl⟩
 obtain ⟨hr1,hr2,hr3⟩:=hargs
 refine ⟨_,rfl,ds,[],_,[],p,[],hW', ?_,?_,by rw [hr3];rfl,bel.frame _,fun h=>by cases h⟩
 · rw [hr1];exact trodAll_mk1 (shut_bool Tryz.underlying4 _)
 · rw [hr2];exact Fg laidOut bel argsOk hA
theorem holds:Rows.ItemNumbersSaid:=
 OpenClaim.holds_of_wide 3 Tryz.f3 rfl rfl rfl rfl rfl rfl rfl ⟨rfl,rfl,rfl,rfl,rfl⟩ rfl rfl rfl rfl rfl (by kernel_rfl) Tryz.func3 closed
   (of_decide_eq_true (by kernel_rfl)) (by unfold Func.isWrapper;first | (rw [if_pos (by decide +kernel)];kernel_rfl) | (rw [if_neg (by decide +kernel)];exact ⟨rfl,rfl⟩))
   (fun os started H enc _=>lifted os started H enc)
theorem proved:Rows.ItemNumbersCardSaid:=
 Claim7.holds_tied_plain_at .later [] [.data,.data,.widerDeep,.widerDeep,.data,.data,.data,.data,.data,.sentinel,.sentinel,.pinned,.pinned] true Rows.itemNumbersCard.stood.harness true holds (fun _ h=>by cases h) (by as_aux_lemma=>kernel_rfl) (fun _ h=>by cases h) itemNumbers_row_tie rfl ⟨rfl,rfl⟩ (by as_aux_lemma=>kernel_rfl) rfl
   (fun f fn hf hfn=>by
     obtain rfl : f = 3 := Option.some.inj ((show Tryz.prog.funcNamed "nearhand/nearhandlaw09.ItemNumbers" = some 3 by as_aux_lemma => kernel_rfl).symm.trans hf) |>.symm;obtain rfl:fn=Tryz.f3:=(Option.some.inj (Tryz.func3.symm.trans hfn)).symm;exact ⟨by as_aux_lemma=>kernel_rfl,fun j t ht=>by
       rw [Tryz.params3] at ht;have hm:t∈([24,2,25]:List TypeId):=by simpa using Array.mem_of_getElem? ht
       have hall:(([24,2,25]:List TypeId).all fun u=>!Tryz.prog.wantsStandIn u)=true:=by as_aux_lemma=>kernel_rfl
       exact (show Tryz.prog.wantsStandIn t=false by simpa using List.all_eq_true.1 hall t hm)⟩)
   (by as_aux_lemma=>kernel_rfl)
#print axioms proved
end Go.Proofs.YteoalcmhdoopnaaGreatDoor.lawItemNumbers
