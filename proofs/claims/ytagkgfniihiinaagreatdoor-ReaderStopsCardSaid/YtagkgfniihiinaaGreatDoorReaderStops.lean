/- ReaderStops returns true at every input, and leaves the input as it was. -/
import Derived.Test.YtagkgfniihiinaaGreatDoorCards
import Derived.Test.YtagkgfniihiinaaGreatDoorTie
import Derived.Test.YtagkgfniihiinaaGreatDoorJ82
set_option linter.all false
set_option maxRecDepth 100000
namespace Go.Proofs.YtagkgfniihiinaaGreatDoor.lawReaderStops
open Go.ChangeShapes Go.WideShapes Go.ChangeAt Go.RowKit
theorem walk {H:Type} {enc:TypeId × Value->H} (W:World) (base:Nat) (args:Array Value) (ds:List (DataW H)) (p:List MemPlace)
  (hval:∀(j:Nat) t v,Tryz.f14.params[j]?=some t->args[j]?=some v->Value.okWide Tryz.prog W .any base t v)
  (hA:DataW.TrodAll enc Tryz.prog W 0 (fun _=>true) true Tryz.f14.params.toList args.toList ds p) (hL:laidMetH Tryz.prog Rows.readerStopsRow.laid W)
  (_:(DataW.weightsEach Tryz.prog (Tryz.f14.params.toList++Rows.readerStopsSpec.plain.varTypes Tryz.prog) (ds++[])).all (·<=reachBytes)=true) :
  Calls Tryz.prog 14 args W fun e W' => e=.returned (.bool true)/\Below W.heap.size W W' := by
 have hN:Nums W:=nums_of hL (by kernel_rfl) (by kernel_rfl) (by kernel_rfl) (by kernel_rfl);have hF:Flo W:=floF_of hL (by kernel_rfl) (by kernel_rfl) (by kernel_rfl);have hP:Par W:=par_of hL (by kernel_rfl) (by kernel_rfl) (by kernel_rfl) (by kernel_rfl);have hR:Rng W:=rng_of hL (by kernel_rfl) (by kernel_rfl);have hS:Slow W:=slow_of hL (by kernel_rfl) (by kernel_rfl) (by kernel_rfl) (by kernel_rfl);have hY:Lay W:=⟨hP,hF.1,hS,hR⟩;rw [Tryz.params14] at hA hval;obtain ⟨v0,vs0,d0,ds0,p0,q0,hargs,rfl,rfl,h0,r0⟩:=trodAll_cons hA;obtain ⟨v1,vs1,d1,ds1,p1,q1,rfl,rfl,rfl,h1,r1⟩:=trodAll_cons r0;obtain ⟨v2,vs2,d2,ds2,p2,q2,rfl,rfl,rfl,h2,r2⟩:=trodAll_cons r1;obtain ⟨rfl,rfl,rfl⟩:=trodAll_nil r2;obtain rfl:args=#[v0,v1,v2]:=by cases args;simp_all
 obtain ⟨cs,rfl,_⟩:=okWide_struct Tryz.underlying26 (hval 0 26 v0 rfl rfl);obtain ⟨c,hf⟩:=h0;obtain ⟨ab,nb,cb,rfl⟩:=okWide_slice Tryz.underlying27 (hval 1 27 v1 rfl rfl);obtain ⟨fuel1,f⟩:=h1;obtain ⟨_,sb,g,h⟩:=open_bytes f;obtain ⟨am,nm,cm,rfl⟩:=okWide_slice Tryz.underlying27 (hval 2 27 v2 rfl rfl);obtain ⟨fuel2,i⟩:=h2;obtain ⟨_,sm,k,l⟩:=open_bytes i;obtain ⟨u,a,b,d,hu,su,ru⟩:=open_valueG c _ _ hf;obtain rfl:cs=#[.int .i64 u.kind,.string u.text,.int .i64 u.int,.float .f64 u.real,.bool u.flag,.slice a u.list.length b]:=by
  have:cs.toList=Ao u.kind u.text u.int u.real u.flag a u.list.length b:=d;exact Array.toList_inj.1 (this.trans (by rw [<-cells6_array]))
 rw [d] at hu;rw [<-g,<-k];exact stopsL_any u a b ab sb cb am sm cm W hu su ru h l hN hF hY
end Go.Proofs.YtagkgfniihiinaaGreatDoor.lawReaderStops
namespace Go.Proofs.YtagkgfniihiinaaGreatDoor.lawReaderStops
open Go.ChangeShapes Go.WideShapes Go.ChangeAt Go.RowKit
theorem own:ownKnob Tryz.prog.godebug=none:=by kernel_rfl
theorem laidOut:laidOutB Tryz.prog=true:=by kernel_rfl
theorem argsOk:(Tryz.f14.params.toList.all fun t=>Tryz.prog.readableRec t && decide (t<Tryz.prog.types.size))=true:=by kernel_rfl
set_option maxHeartbeats 100000000 in
theorem closed:joinedFacts Tryz.prog 14 Tryz.f14 Rows.readerStopsSpec Rows.readerStopsRow=true:=by
 unfold joinedFacts
 repeat' (with_reducible refine (Bool.and_eq_true _ _).mpr ⟨?_,?_⟩)
 all_goals (as_aux_lemma=>kernel_rfl)
theorem lifted (os:Os) (started:os.Started) (H:Type) (enc:TypeId × Value->H) :
  ReturnsInHanded {} Tryz.checked os 14 .any (fun w args=>(Rows.readerStopsSpec.pre enc Tryz.prog Tryz.f14 Rows.readerStopsRow.domain false w args/\laidMetH Tryz.prog Rows.readerStopsRow.laid w)/\sizedMet enc Tryz.prog Tryz.f14 (OpenSpec.ofChange Rows.readerStopsSpec) false w args)
   (Rows.readerStopsSpec.post enc Tryz.prog Tryz.f14 false true false false):=by
 refine returnsInHanded_of_change_and (C:=Tryz.checked) (X:=fun w _=>laidMetH Tryz.prog Rows.readerStopsRow.laid w) (fun _ _ _ hh h=>h.of_heap hh) own started (by kernel_rfl) Tryz.func14
  (ChangeSpec.witness_shaped (enc:=enc) (C:=Tryz.checked) (os:=os) (X:=fun w _=>laidMetH Tryz.prog Rows.readerStopsRow.laid w) false (World.laidAll Tryz.prog os Rows.readerStopsRow.laid) #[.agg #[.int .i64 0,.string ⟨#[]⟩,.int .i64 0,.float .f64 0,.bool false,.slice none 0 0],.slice none 0 0,.slice none 0 0] 8 (World.laidAll_os _ _ _)
   (World.shaped_of_ZipB (by kernel_rfl) (by kernel_rfl)) (by kernel_rfl) (by kernel_rfl) (by kernel_rfl)
   (by rw [MakeChecks.laidMetH_plain _ _ _ (by kernel_rfl)];exact laidMet_laidAll _ (by kernel_rfl) (by kernel_rfl))) ?_
 intro W c args ds gs before b hW hc hR hL _;have d:∀(j:Nat) t v,Tryz.f14.params[j]?=some t->args[j]?=some v->Value.okWide Tryz.prog W .any c t v:=b;have g := hW;obtain ⟨p,q,f,hV,rfl,hfz,hnd⟩:=hW;have hA:DataW.TrodAll enc Tryz.prog W 0 (fun _=>true) true Tryz.f14.params.toList args.toList ds p:=f;obtain ⟨rfl,rfl⟩:=trodVars_none hV;clear f b;refine (walk W c args ds p d hA hL hR).mono fun e W' ⟨he,bel⟩=>?_;subst he;have a:(Rows.readerStopsSpec.fn H (ds++[])).results=[.lit (.bool true)]/\(Rows.readerStopsSpec.fn H (ds++[])).args=ds/\(Rows.readerStopsSpec.fn H (ds++[])).vars=[]:=by
  rw [Tryz.params14] at hA;obtain ⟨v0,vs0,d0,ds0,p0,q0,a,rfl,rfl,h0,r0⟩:=trodAll_cons hA;obtain ⟨v1,vs1,d1,ds1,p1,q1,rfl,rfl,rfl,h1,r1⟩:=trodAll_cons r0;obtain ⟨v2,vs2,d2,ds2,p2,q2,rfl,rfl,rfl,h2,r2⟩:=trodAll_cons r1;obtain ⟨rfl,rfl,rfl⟩:=trodAll_nil r2;exact ⟨rfl,rfl,rfl⟩
 obtain ⟨i,k,l⟩:=a;refine ⟨_,rfl,ds,[],_,[],p,[],g, ?_,?_,by rw [l];rfl,bel.frame _,fun h=>by cases h⟩
 ·rw [i];exact trodAll_mk1 (shut_bool Tryz.underlying4 _)
 ·rw [k];exact trodAll_below laidOut bel argsOk hA
theorem holds:Rows.ReaderStopsSaid:=
 OpenClaim.holds_of_wide 14 Tryz.f14 rfl rfl rfl rfl rfl rfl rfl ⟨rfl,rfl,rfl,rfl,rfl⟩ rfl rfl rfl rfl rfl (by kernel_rfl) Tryz.func14 closed
  (of_decide_eq_true (by kernel_rfl)) (by unfold Func.isWrapper;first | (rw [if_pos (by decide +kernel)];kernel_rfl) | (rw [if_neg (by decide +kernel)];exact ⟨rfl,rfl⟩))
  (fun os started H enc _=>lifted os started H enc)
theorem proved:Rows.ReaderStopsCardSaid:=
 Claim7.holds_tied_plain_at .later [] [.data,.data,.widerDeep,.widerDeep,.data,.data,.data,.data,.data,.data,.sentinel,.sentinel,.pinned,.pinned,.pinned] true Rows.readerStopsCard.stood.harness true holds (fun _ h=>by cases h) (by as_aux_lemma=>kernel_rfl) (fun _ h=>by cases h) readerStops_row_tie rfl ⟨rfl,rfl⟩ (by as_aux_lemma=>kernel_rfl) rfl
  (fun f fn hf hfn=>by
   obtain rfl : f = 14 := Option.some.inj ((show Tryz.prog.funcNamed "nearhand/nearhandlaw05.ReaderStops" = some 14 by as_aux_lemma => kernel_rfl).symm.trans hf) |>.symm;obtain rfl:fn=Tryz.f14:=(Option.some.inj (Tryz.func14.symm.trans hfn)).symm;exact ⟨by as_aux_lemma=>kernel_rfl,fun j t ht=>by
    rw [Tryz.params14] at ht;have hm:t∈([26,27,27]:List TypeId):=by simpa using Array.mem_of_getElem? ht
    have a:(([26,27,27]:List TypeId).all fun u=>!Tryz.prog.wantsStandIn u)=true:=by as_aux_lemma=>kernel_rfl
    exact (show Tryz.prog.wantsStandIn t=false by simpa using List.all_eq_true.1 a t hm)⟩)
  (by as_aux_lemma=>kernel_rfl)
#print axioms proved
