/- What the statements' arguments read as, opened; no number of this program's stands here. -/
import Derived.Test.YteoalcmhdoopnaaGreatDoorBase
import Derived.ProofKit
import Derived.OpenShut
import Derived.ShutString
import Derived.ChangeOld
import Derived.Deep.Slices
import Derived.Deep.Fields
import Derived.ChangeSame
import Derived.Test.YteoalcmhdoopnaaGreatDoorRNamL
import Derived.Stop.LaidErr
import Derived.Test.YteoalcmhdoopnaaGreatDoorJ10
import Derived.LaidMore
import Derived.LaidSub
import Derived.LaidLaws
import Derived.Lib.LaidTab
import Derived.Lay
namespace Go.Proofs.YteoalcmhdoopnaaGreatDoor
open Go.ChangeShapes Go.WideShapes Go.ChangeAt Go.RowKit Go.Deep
section
variable {H:Type} {enc:TypeId × Value->H} {P:Program} {w:World}
theorem Fg {W W' : World} (hl:laidOutB P=true) (hb:Below W.heap.size W W'):∀{ts:List TypeId} {vs:List Value} {ds:List (DataW H)} {ps:List MemPlace},
   (ts.all fun t=>P.readableRec t && decide (t<P.types.size))=true->DataW.TrodAll enc P W 0 (fun _=>true) true ts vs ds ps->DataW.TrodAll enc P W' 0 (fun b=>decide (b<W.heap.size)) true ts vs ds ps
 | [],vs,ds,ps,_,h=>by
   obtain ⟨rfl,rfl,rfl⟩:=trodAll_nil h;exact trodAll_mk0
 | t :: ts,vs,ds,ps,hts,h=>by
   obtain ⟨v,vs', d,ds', p,q,rfl,rfl,rfl,h1,h2⟩:=trodAll_cons h;simp only [List.all_cons,Bool.and_eq_true,decide_eq_true_eq] at hts;refine trodAll_cons_mk (Below.trod hl hts.1.1 hts.1.2 h1 hb ?_) (Fg hl hb (by simpa using hts.2) h2);obtain ⟨m,hm⟩:=h1;exact DataW.trod_lt m _ _ _ hm
theorem exists_list {α:Type} {R:Nat->α->Prop}:∀(n:Nat),(∀i,i<n->∃x,R i x)->∃l:List α,l.length=n/\∀i (h:i<l.length),R i l[i]
 | 0,_=>⟨[],rfl,fun i h=>by simp at h⟩
 | n+1,h=>by
   obtain ⟨l,hl,hr⟩:=exists_list n (fun i hi=>h i (by omega));obtain ⟨x,hx⟩:=h n (by omega);refine ⟨l++[x],by simp [hl],fun i hi=>?_⟩;by_cases hn:i<l.length
   · rw [List.getElem_append_left hn];exact hr i hn
   · simp at hi
     have:i=l.length:=by omega
     subst this;rw [List.getElem_append_right (by omega)];simpa [hl] using hx
theorem open_slice_rows {t e:TypeId} {fs:Array Field} {fuel:Nat} {a:Option Addr} {len cap:Nat} {x:DataW H × List MemPlace} (ht:P.underlying t=some (.slice e)) (he:P.underlying e=some (.struct fs))
   (hone:oneCellFields P fs=true) (hC:P.cellsOf e=fs.size) (h:DataW.trod enc P w 0 (fun _=>true) true fuel t [.slice a len cap]=some x) :
   len<=maxLen/\((a=none/\len=0)\/∃ad:Addr,a=some ad /\
     ∀i,i<len->∃(ys:List (DataW H × List MemPlace)) (n:Nat),ys.length=fs.size /\
       ∀(j:Nat) (f:Field),fs[j]?=some f->∃(v:Value) (y:DataW H × List MemPlace),w.cell? (ad.add (i * fs.size+j))=some v/\ys[j]?=some y/\DataW.trod enc P w 0 (fun _=>true) true n f.type [v]=some y):=by
 rcases open_slice ht h with h0 | ⟨ad,len', cap', m,n,D,Pl,hcs,hb,hl,hm,hmm,hx,hi⟩
 · obtain ⟨h0,_⟩:=h0
   simp at h0;obtain ⟨rfl,rfl,rfl⟩:=h0;exact ⟨Nat.zero_le _,.inl ⟨rfl,rfl⟩⟩
 · simp at hcs
   obtain ⟨rfl,rfl,rfl⟩:=hcs;simp at hmm;subst hmm;refine ⟨Nat.le_trans hl hm,.inr ⟨ad,rfl,fun i him=>?_⟩⟩;obtain ⟨cs', hc,ht'⟩:=hi i (by omega);rw [hC] at hc;obtain ⟨ys,n', hn', hy,hlen,hyl,hf⟩:=DataW.trod_struct he ht';obtain ⟨_,hcl,hat⟩:=World.cells?_some hc;refine ⟨ys,n', hyl,fun j f hj=>?_⟩;obtain ⟨ho,hk⟩:=hone_of hone j f hj;have hjl:j<fs.size:=(Array.getElem?_eq_some_iff.1 hj).1;have hcell:=hat j hjl;have hv:cs'[j]?=some (cs'[j]'(by omega)):=List.getElem?_eq_getElem (by omega);have h1:=hf j f hj;rw [ho,hk] at h1;have hone' : (cs'.drop j).take 1=[cs'[j]'(by omega)]:=by
     rw [List.drop_eq_getElem_cons (by omega)];rfl
   rw [hone'] at h1;have hys:ys[j]?=some (ys[j]'(by omega)):=List.getElem?_eq_getElem (by omega);refine ⟨_,_,?_,hys,h1.trans hys⟩;rw [<-Go.Deep.add_add,hcell,hv]
theorem add_plain {ad:Addr} {v:Value} (h:w.cell? (ad.add 0)=some v):∃b o,ad=⟨b,o,none⟩:=by
 cases ad with
 | mk b o s=>
   cases s with
   | none=>exact ⟨b,o,rfl⟩
   | some s=>
     simp [Addr.add,World.cell?] at h;split at h<;>simp at h
theorem add_mk (b o j:Nat):(⟨b,o,none⟩:Addr).add j=⟨b,o+j,none⟩:=by
 unfold Addr.add;split
 · rename_i h;simp [h]
 · rfl
end
end Go.Proofs.YteoalcmhdoopnaaGreatDoor
namespace Go.Proofs.YteoalcmhdoopnaaGreatDoor
open Go.ChangeShapes Go.WideShapes Go.ChangeAt Go.RowKit
theorem star_errT : "*" ++ "errors.errorString" = "*errors.errorString" := by decide
theorem row_errT (u : TypeId) (h : Tryz.prog.typeName? 3 u = some "*errors.errorString") : u = 174 :=
 typeName_ptr_named (nm := "errors.errorString") (by rw [star_errT]; kernel_rfl) (by kernel_rfl) (by decide) u (by rw [star_errT]; exact h)
theorem glob_rngT : Tryz.prog.globalNamed "strconv.ErrRange" = some 2 := by kernel_rfl
theorem rng_of {W:World} {laid:List (String × DataW Unit)} (h0:laidMetH Tryz.prog laid W) (hp:(laid.all fun x=>x.2.handleName?.isNone)=true)
   (e3 : laid.filter (fun x => x.1 == "strconv.ErrRange") = [("strconv.ErrRange", .iface "*errors.errorString" (.ptr (.agg [.lit (.string [118, 97, 108, 117, 101, 32, 111, 117, 116, 32, 111, 102, 32, 114, 97, 110, 103, 101])])))]) : Rng W := by
 rw [MakeChecks.laidMetH_plain _ _ _ hp] at h0
 have h3 := h0.filter (fun x => x.1 == "strconv.ErrRange")
 rw [e3] at h3
 obtain ⟨a,s,hv,_⟩:=laid_sentinel (g:=2) (ti:=76) (tp:=174) (te:=176) h3 glob_rngT (by kernel_rfl) Tryz.underlying76 row_errT Tryz.underlying174 Tryz.underlying176 rfl rfl Tryz.underlying9 (by kernel_rfl) (by kernel_rfl)
 exact ⟨_,_,(World.var?_cell glob_rngT hv 0).trans rfl⟩
end Go.Proofs.YteoalcmhdoopnaaGreatDoor
namespace Go.Proofs.YteoalcmhdoopnaaGreatDoor
open Go.ChangeShapes Go.WideShapes Go.ChangeAt Go.RowKit Go.Deep
theorem open_fields {H:Type} {enc:TypeId × Value->H} {w:World} {fuel:Nat} {a:Option Addr} {n cap:Nat} {x:DataW H × List MemPlace} (h:DataW.trod enc Tryz.prog w 0 (fun _=>true) true fuel 22 [.slice a n cap]=some x) :
   ∃fs:List Fld,RF w a n cap fs:=by
 obtain ⟨_,h0 | ⟨ad,rfl,hi⟩⟩:=open_slice_rows Tryz.underlying22 Tryz.underlying53 (by kernel_rfl) (by kernel_rfl) h
 · obtain ⟨rfl,rfl⟩:=h0
   exact ⟨[],Reads.nil _ _ _ _⟩
 · have key:∀i,i<n->∃f:Fld,w.cell? (ad.add (i * 2))=some (.string f.1)/\w.cell? (ad.add (i * 2+1))=some (.string f.2):=fun i hin=>by
     obtain ⟨ys,m,hys,hf⟩:=hi i hin;obtain ⟨v0,y0,c0,_,t0⟩:=hf 0 _ rfl;obtain ⟨v1,y1,c1,_,t1⟩:=hf 1 _ rfl;obtain ⟨s0,e0,_⟩:=DataW.trod_string Tryz.underlying9 t0;obtain ⟨s1,e1,_⟩:=DataW.trod_string Tryz.underlying9 t1;simp only [List.cons.injEq,and_true] at e0 e1;subst e0;subst e1;exact ⟨(s0,s1),c0,c1⟩
   obtain ⟨fs,hfl,hfs⟩:=exists_list (R:=fun i (f:Fld)=>w.cell? (ad.add (i * 2))=some (.string f.1)/\w.cell? (ad.add (i * 2+1))=some (.string f.2)) n (fun i hin=>key i hin);refine ⟨fs,some ad,cap,rfl,by rw [Ew,hfl],fun j u hj=>?_⟩;have hjl:j<(flds fs).length:=(List.getElem?_eq_some_iff.1 hj).1;rw [Ew] at hjl;have hjd:j / 2<fs.length:=by omega
   obtain ⟨h1,h2⟩:=hfs (j / 2) hjd;have h00:=(hfs 0 (by omega)).1;obtain ⟨b,o,rfl⟩:=add_plain (by simpa using h00);refine ⟨b,o,rfl,?_⟩;obtain ⟨g1,g2⟩:=flds_get (List.getElem?_eq_getElem hjd);rw [add_mk] at h1 h2;rcases Nat.mod_two_eq_zero_or_one j with e | e
   · rw [show j / 2 * 2=j by omega] at g1 h1
     rw [hj] at g1;simp only [Option.some.injEq] at g1;rw [g1];exact h1
   · rw [show j / 2 * 2+1=j by omega] at g2 h2
     rw [hj] at g2;simp only [Option.some.injEq] at g2;rw [g2];exact h2
theorem three_of {cs:List Value} (h:cs.length=3):∃a b c,cs=[a,b,c]:=by
 match cs,h with
 | [a,b,c],_=>exact ⟨a,b,c,rfl⟩
theorem open_item {H:Type} {enc:TypeId × Value->H} {w:World} {fuel:Nat} {cs:List Value} {x:DataW H × List MemPlace} (h:DataW.trod enc Tryz.prog w 0 (fun _=>true) true fuel 24 cs=some x) :
   ∃(k:Int) (t:ByteArray) (a:Option Addr) (n cap:Nat) (fs:List Fld),cs=[.int .i64 k,.string t,.slice a n cap]/\RF w a n cap fs:=by
 obtain ⟨xs,n,rfl,hx,hlen,hxl,hf⟩:=DataW.trod_struct Tryz.underlying24 h
 have hC:Tryz.prog.cellsOf 24=3:=by kernel_rfl
 rw [hC] at hlen
 obtain ⟨c0,c1,c2,rfl⟩:=three_of hlen
 have hx3:xs.length=3:=hxl
 have g:∀i (hi:i<xs.length),xs[i]?=some xs[i]:=fun i hi=>List.getElem?_eq_getElem hi
 have key:∀(i:Nat) (f:Field) (c:Value),_->Tryz.prog.cellsOf f.type=1->(([c0,c1,c2]:List Value).drop f.offset).take 1=[c]->DataW.trod enc Tryz.prog w 0 (fun _=>true) true n f.type [c]=xs[i]?:=fun i f c h1 h2 h3=>by
   have:=hf i f h1;rw [h2,h3] at this;exact this
 have f0:DataW.trod enc Tryz.prog w 0 (fun _=>true) true n 3 [c0]=some xs[0]:=(key 0 _ c0 rfl (by kernel_rfl) rfl).trans (g 0 (by omega))
 have f1:DataW.trod enc Tryz.prog w 0 (fun _=>true) true n 9 [c1]=some xs[1]:=(key 1 _ c1 rfl (by kernel_rfl) rfl).trans (g 1 (by omega))
 have f2:DataW.trod enc Tryz.prog w 0 (fun _=>true) true n 22 [c2]=some xs[2]:=(key 2 _ c2 rfl (by kernel_rfl) rfl).trans (g 2 (by omega))
 obtain ⟨k,e0,_⟩:=DataW.trod_int Tryz.underlying3 f0
 obtain ⟨t,e1,_⟩:=DataW.trod_string Tryz.underlying9 f1
 simp only [List.cons.injEq,and_true] at e0 e1
 subst e0;subst e1
 rcases DataW.trod_slice Tryz.underlying22 f2 with ⟨e5,_⟩ | ⟨ad,len,cap,elems,rest,m,_,e5,_⟩
 · simp only [List.cons.injEq,and_true] at e5
   subst e5;exact ⟨k,t,none,0,0,[],rfl,Reads.nil _ _ _ _⟩
 · simp only [List.cons.injEq,and_true] at e5
   subst e5;obtain ⟨fs,hfs⟩:=open_fields f2;exact ⟨k,t,_,_,_,fs,rfl,hfs⟩
theorem star_err : "*" ++ "errors.errorString" = "*errors.errorString" := by decide
theorem row_err (u : TypeId) (h : Tryz.prog.typeName? 3 u = some "*errors.errorString") : u = 174 :=
 typeName_ptr_named (nm := "errors.errorString") (by rw [star_err]; kernel_rfl) (by kernel_rfl) (by decide) u (by rw [star_err]; exact h)
theorem nums_of {W:World} {laid:List (String × DataW Unit)} (h0:laidMetH Tryz.prog laid W) (hp:(laid.all fun x=>x.2.handleName?.isNone)=true)
   (e1 : laid.filter (fun x => x.1 == "internal/strconv.uint64pow10") = [("internal/strconv.uint64pow10", Lib.tabData .u64 Lib.pow10Tab)])
   (e2 : laid.filter (fun x => x.1 == "strconv.ErrSyntax") = [("strconv.ErrSyntax", .iface "*errors.errorString" (.ptr (.agg [.lit (.string [105, 110, 118, 97, 108, 105, 100, 32, 115, 121, 110, 116, 97, 120])])))])
   (e3 : laid.filter (fun x => x.1 == "strconv.ErrRange") = [("strconv.ErrRange", .iface "*errors.errorString" (.ptr (.agg [.lit (.string [118, 97, 108, 117, 101, 32, 111, 117, 116, 32, 111, 102, 32, 114, 97, 110, 103, 101])])))]) : Nums W := by
 rw [MakeChecks.laidMetH_plain _ _ _ hp] at h0
 have h1 := h0.filter (fun x => x.1 == "internal/strconv.uint64pow10")
 have h2 := h0.filter (fun x => x.1 == "strconv.ErrSyntax")
 have h3 := h0.filter (fun x => x.1 == "strconv.ErrRange")
 rw [e1] at h1
 rw [e2] at h2
 rw [e3] at h3
 refine ⟨Lib.tabIs_of_head (g:=3) (t:=132) (e:=25) (n:=20) (by kernel_rfl) (by kernel_rfl) Tryz.underlying132 Tryz.underlying25 (by kernel_rfl) (by kernel_rfl) h1,?_,?_⟩
 · obtain ⟨a,s,hv,_⟩:=laid_sentinel (g:=1) (ti:=76) (tp:=174) (te:=176) h2 glob_syn (by kernel_rfl) Tryz.underlying76 row_err Tryz.underlying174 Tryz.underlying176 rfl rfl Tryz.underlying9 (by kernel_rfl) (by kernel_rfl)
   exact ⟨_,_,hv⟩
 · obtain ⟨a,s,hv,_⟩:=laid_sentinel (g:=2) (ti:=76) (tp:=174) (te:=176) h3 glob_rng (by kernel_rfl) Tryz.underlying76 row_err Tryz.underlying174 Tryz.underlying176 rfl rfl Tryz.underlying9 (by kernel_rfl) (by kernel_rfl)
   exact ⟨_,_,hv⟩
end Go.Proofs.YteoalcmhdoopnaaGreatDoor
