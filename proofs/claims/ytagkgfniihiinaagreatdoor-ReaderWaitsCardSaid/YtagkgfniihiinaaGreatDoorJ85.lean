/- WireCommands: its walk. -/
import Derived.Test.YtagkgfniihiinaaGreatDoorWire2
import Derived.Deep.AppendLies
import Derived.Test.YtagkgfniihiinaaGreatDoorJ72
import Derived.Test.YtagkgfniihiinaaGreatDoorJ64
import Derived.Test.YtagkgfniihiinaaGreatDoorAll03
import Derived.Test.YtagkgfniihiinaaGreatDoorJ92
namespace Go.Proofs.YtagkgfniihiinaaGreatDoor
open Go.RowKit Go.Joins
theorem Af {w w' : World} {b o:Nat} {cs:List Value} (hb:Below w.heap.size w w') (h:w.rangeAt b o cs):w'.rangeAt b o cs:=fun j u hj=>Aa hb _ _ (h j u hj)
end Go.Proofs.YtagkgfniihiinaaGreatDoor
namespace Go.Proofs.YtagkgfniihiinaaGreatDoor.R2
open Go Go.RowKit
theorem VC.guarded {P:Program} {l:List Oper} {C I:World->Prop} {F:Nat->Bool} {R:Nat->World->World->Prop} {G:Nat->Value->World->Prop} {E:Nat->Nat->Bool} {a0:Act} {i g:Nat} {b:Bool} {t:Tmp} {o og:Oper} (hg:o.guard=some (g,b)) (hog:l[g]?=some og) (hd:og.dst=some t)
   (hv:∀a w,Finds l C I G E F a0 i o a w->a.eval (.tmp t)=.bool b) (h:∀a w,Finds l C I G E F a0 i o a w->Di P o a w (fun v w' => C w' /\ R i w w' /\ G i v w')):VC P l C I R G E F a0 i o:=fun a w hf=>by
 have h1:a.tmps.getD t undef=.bool b:=hv a w hf
 have h2:a.tmps[t]?=some (.bool b):=by
   cases h3:a.tmps[t]? with
   | none=>
     have:a.tmps.getD t undef=undef:=by rw [Array.getD_eq_getD_getElem?,h3];rfl
     rw [this] at h1;cases h1
   | some u=>
     have:a.tmps.getD t undef=u:=by rw [Array.getD_eq_getD_getElem?,h3];rfl
     rw [this] at h1;rw [h1]
 have h4:yielded l.toArray a.tmps g=some b:=by
   unfold yielded;have:l.toArray[g]?=some og:=by simpa using hog
   rw [this];show (match (og.dst.bind fun x=>a.tmps[x]?) with | some (.bool b)=>some b | _=>none)=some b
   rw [hd];show (match a.tmps[t]? with | some (.bool b)=>some b | _=>none)=some b
   rw [h2]
 rw [if_pos (by unfold Region.wanted;rw [hg];simp [h4])]
 exact h a w hf
end Go.Proofs.YtagkgfniihiinaaGreatDoor.R2
namespace Go.Proofs.YtagkgfniihiinaaGreatDoor
open Go.RowKit Go.Joins
set_option maxRecDepth 100000 in
set_option maxHeartbeats 1600000 in
theorem bytes3_any (v:V) (a:Option Addr) (cap:Nat) (d:Int) (w:World) (hv:RV w.cell? (Ai v.kind v.text v.int v.real v.flag a v.list.length cap) v) (hf:v.fine d=true) (hr:v.ranged) (hc:v.count<=100000) (hL:LaidV w.heap.size w) :
   Calls Tryz.prog 16 #[.agg #[.int .i64 v.kind,.string v.text,.int .i64 v.int,.float .f64 v.real,.bool v.flag,.slice a v.list.length cap],.int .i64 3] w fun e w' => ∃b,e=.returned b/\Row w.heap.size w' b ⟨v.wire.toArray⟩/\Below w.heap.size w w' := by
 obtain ⟨W1,hW1⟩:∃W1,W1=w.alloc (.cells #[.int .i64 v.kind,.string v.text,.int .i64 v.int,.float .f64 v.real,.bool v.flag,.slice a v.list.length cap] 26):=⟨_,rfl⟩
 have hb0:Below w.heap.size w W1:=by rw [hW1];exact (Below.refl _ _).alloc (Nat.le_refl _) _
 have hput:=put_any v v.kind v.text v.int v.real v.flag a v.list.length cap d w.heap.size W1 (.slice none 0 0) ⟨#[]⟩ ⟨(hv.mono (older_of (Nat.le_refl _))).mono (older_below hb0),hf,hr,hc,hL.below hb0 (Nat.le_refl _),Row.nil _ _,hb0.size,by
   have e:(⟨#[]⟩:ByteArray).size=0:=rfl;omega⟩
 rw [hW1] at hput
 replace hput:=Hd hput
 replace hb0:=Hd hb0
 replace hW1:=Hd hW1
 clear hv hL
 go_enter Tryz.func16,Tryz.ntmps16
 go_wp2_with fail
 refine hput.out.mono ?_
 rintro e w' ⟨b,rfl,hR,hb,-⟩
 rw [Fe] at hR
 rw [<-hW1.out] at hb
 have hb2:=hb0.out.trans hb
 clear hb
 replace hR:=Hd hR
 replace hb2:=Hd hb2
 go_wp2_with fail
 go_ret
 exact ⟨_,rfl,hR.out,hb2.out⟩
theorem checkZ_fine {v:V} (h:E3 v=true):v.fine 8=true/\v.count<=1000:=by
 rw [<-right_check] at h;unfold Fg at h;split at h
 · assumption
 · exact absurd h (by decide)
namespace R2
end R2
end Go.Proofs.YtagkgfniihiinaaGreatDoor
