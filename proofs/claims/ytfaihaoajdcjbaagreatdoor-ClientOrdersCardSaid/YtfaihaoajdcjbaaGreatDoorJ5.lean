/- What the statements' arguments read as, opened; no number of this program's stands here. -/
import Derived.Test.YtfaihaoajdcjbaaGreatDoorBase
import Derived.ProofKit
import Derived.OpenShut
import Derived.ShutString
import Derived.ChangeOld
import Derived.Deep.Slices
import Derived.Deep.Fields
import Derived.ChangeSame
import Derived.Test.YtfaihaoajdcjbaaGreatDoorNums
import Derived.LaidMore
import Derived.LaidSub
import Derived.LaidLaws
import Derived.Lib.LaidTab
import Derived.Stop.LaidErr
import Derived.Lay
set_option linter.all false
namespace Go.Proofs.YtfaihaoajdcjbaaGreatDoor
open Go.ChangeShapes Go.WideShapes Go.ChangeAt Go.RowKit Go.Deep
section
variable {H:Type} {enc:TypeId × Value->H} {P:Program} {w:World}
theorem Dr {W W' : World} (hl:laidOutB P=true) (hb:Below W.heap.size W W'):∀{ts:List TypeId} {vs:List Value} {ds:List (DataW H)} {ps:List MemPlace},
   (ts.all fun t=>P.readableRec t && decide (t<P.types.size))=true->DataW.TrodAll enc P W 0 (fun _=>true) true ts vs ds ps->DataW.TrodAll enc P W' 0 (fun b=>decide (b<W.heap.size)) true ts vs ds ps
 | [],vs,ds,ps,_,h=>by
   obtain ⟨rfl,rfl,rfl⟩:=trodAll_nil h;exact trodAll_mk0
 | t :: ts,vs,ds,ps,hts,h=>by
   obtain ⟨v,vs', d,ds', p,q,rfl,rfl,rfl,h1,h2⟩:=trodAll_cons h;simp only [List.all_cons,Bool.and_eq_true,decide_eq_true_eq] at hts;refine trodAll_cons_mk (Below.trod hl hts.1.1 hts.1.2 h1 hb ?_) (Dr hl hb (by simpa using hts.2) h2);obtain ⟨m,hm⟩:=h1;exact DataW.trod_lt m _ _ _ hm
theorem add_plain {ad:Addr} {v:Value} (h:w.cell? (ad.add 0)=some v):∃b o,ad=⟨b,o,none⟩:=by
 cases ad with
 | mk b o s=>
   cases s with
   | none=>exact ⟨b,o,rfl⟩
   | some s=>
     simp [Addr.add,World.cell?] at h;split at h<;>simp at h
theorem add_mk (b o j:Nat):(⟨b,o,none⟩:Addr).add j=⟨b,o+j,none⟩:=by
 unfold Addr.add;split
 · rename_i h;simp [h]
 · rfl
end
end Go.Proofs.YtfaihaoajdcjbaaGreatDoor
namespace Go.Proofs.YtfaihaoajdcjbaaGreatDoor
open Go.ChangeShapes Go.WideShapes Go.ChangeAt Go.RowKit
theorem star_err : "*" ++ "errors.errorString" = "*errors.errorString" := by decide
theorem row_err (u : TypeId) (h : Tryz.prog.typeName? 3 u = some "*errors.errorString") : u = 248 :=
 typeName_ptr_named (nm := "errors.errorString") (by rw [star_err]; kernel_rfl) (by kernel_rfl) (by decide) u (by rw [star_err]; exact h)
theorem nums_of {W:World} {laid:List (String × DataW Unit)} (h0:laidMetH Tryz.prog laid W) (hp:(laid.all fun x=>x.2.handleName?.isNone)=true)
   (e1 : laid.filter (fun x => x.1 == "internal/strconv.uint64pow10") = [("internal/strconv.uint64pow10", Lib.tabData .u64 Lib.pow10Tab)])
   (e2 : laid.filter (fun x => x.1 == "strconv.ErrSyntax") = [("strconv.ErrSyntax", .iface "*errors.errorString" (.ptr (.agg [.lit (.string [105, 110, 118, 97, 108, 105, 100, 32, 115, 121, 110, 116, 97, 120])])))])
   (e3 : laid.filter (fun x => x.1 == "strconv.ErrRange") = [("strconv.ErrRange", .iface "*errors.errorString" (.ptr (.agg [.lit (.string [118, 97, 108, 117, 101, 32, 111, 117, 116, 32, 111, 102, 32, 114, 97, 110, 103, 101])])))]) : Nums W := by
 rw [MakeChecks.laidMetH_plain _ _ _ hp] at h0;have h1 := h0.filter (fun x => x.1 == "internal/strconv.uint64pow10");have h2 := h0.filter (fun x => x.1 == "strconv.ErrSyntax");have h3 := h0.filter (fun x => x.1 == "strconv.ErrRange");rw [e1] at h1;rw [e2] at h2;rw [e3] at h3;refine ⟨Lib.tabIs_of_head (g:=1) (t:=186) (e:=166) (n:=20) (by kernel_rfl) (by kernel_rfl) Tryz.underlying186 Tryz.underlying166 (by kernel_rfl) (by kernel_rfl) h1,?_,?_⟩
 · obtain ⟨a,s,hv,_⟩:=laid_sentinel (g:=8) (ti:=138) (tp:=248) (te:=250) h2 glob_syn (by kernel_rfl) Tryz.underlying138 row_err Tryz.underlying248 Tryz.underlying250 rfl rfl Tryz.underlying9 (by kernel_rfl) (by kernel_rfl)
   exact ⟨_,_,hv⟩
 · obtain ⟨a,s,hv,_⟩:=laid_sentinel (g:=9) (ti:=138) (tp:=248) (te:=250) h3 glob_rng (by kernel_rfl) Tryz.underlying138 row_err Tryz.underlying248 Tryz.underlying250 rfl rfl Tryz.underlying9 (by kernel_rfl) (by kernel_rfl)
   exact ⟨_,_,hv⟩
end Go.Proofs.YtfaihaoajdcjbaaGreatDoor
