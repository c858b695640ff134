/- What is laid at the start for reading floats of many digits. -/
import Derived.Test.YteoalcmhdoopnaaGreatDoorParB
import Derived.Test.YteoalcmhdoopnaaGreatDoorJ36
import Derived.Test.YteoalcmhdoopnaaGreatDoorBase
import Derived.ProofKit
import Derived.OpenShut
import Derived.ShutString
import Derived.ChangeOld
import Derived.Deep.Slices
import Derived.Deep.Fields
import Derived.ChangeSame
import Derived.Test.YteoalcmhdoopnaaGreatDoorRNamL
import Derived.Stop.LaidErr
import Derived.Test.YteoalcmhdoopnaaGreatDoorJ24
import Derived.LaidMore
import Derived.LaidSub
import Derived.LaidLaws
import Derived.Lib.LaidTab
import Derived.Lay
namespace Go.Proofs.YteoalcmhdoopnaaGreatDoor
open Go.ChangeShapes Go.WideShapes Go.ChangeAt Go.RowKit
theorem cheat_rows:∀k:Fin 61,1<=k.val->Go.Pinned.cheatRows[k.val]?=some (Ci k.val,Lib.decDigits (5 ^ k.val)):=by decide +kernel
theorem cheat_len:Go.Pinned.cheatRows.length=61:=by decide +kernel
theorem cheats_of {W : World} (h : laidMet Tryz.prog [("internal/strconv.leftcheats", Go.Pinned.leftcheats)] W) :
   ∃(b:Addr) (c:Nat),W.cell? ⟨14,0,none⟩=some (.slice (some b) 61 c)/\∀k,1<=k->k<=60->W.cell? (b.add (k * 2))=some (.int .i64 (Ci k:Int))/\W.cell? ⟨(b.add (k * 2)).block,(b.add (k * 2)).off+1,none⟩=some (.string (cutS k)):=by
 obtain ⟨ps,⟨g', t', cs,fuel,p,q,hg', ht', hvar,hd,_,_⟩,_⟩:=h
 obtain rfl : 14 = g' := Option.some.inj ((show Tryz.prog.globalNamed "internal/strconv.leftcheats" = some 14 by kernel_rfl).symm.trans hg')
 obtain rfl:207=t' := Option.some.inj ((show (Tryz.prog.globals[14]?).map (·.type)=some 207 by kernel_rfl).symm.trans ht')
 have hc2:Tryz.prog.cellsOf 206=2:=by kernel_rfl
 have hc1:Tryz.prog.cellsOf 3=1:=by kernel_rfl
 have hcs:Tryz.prog.cellsOf 9=1:=by kernel_rfl
 rcases DataW.trod_slice Tryz.underlying207 hd with ⟨_,h2⟩ | ⟨a,len,cap,elems,rest,n,rfl,h1,h2,hb,hlc,hcm,hel,hat,_,_⟩
 · have:=congrArg Prod.fst h2
   cases this
 · have hem:elems.map (·.1)=Go.Pinned.cheatRows.map fun x=>(DataW.agg [.lit (.int .i64 x.1),.lit (.string x.2)]:DataW Unit):=by
     have:=congrArg Prod.fst h2;unfold Go.Pinned.leftcheats at this;simp only [DataW.slice.injEq] at this;exact this.1.symm
   have hl61:len=61:=by
     have:=congrArg List.length hem;rw [List.length_map,List.length_map,hel,cheat_len] at this;exact this
   rw [hc2] at hat;refine ⟨a,cap,?_,fun k k1 k2=>?_⟩
   · rw [World.var?_cell hg' hvar 0,<-Array.getElem?_toList,h1,hl61];rfl
   · have h3:=hat k (by omega)
     have h4:(elems.map (·.1))[k]?=some (DataW.agg [.lit (.int .i64 (Ci k)),.lit (.string (Lib.decDigits (5 ^ k)))]):=by
       rw [hem,List.getElem?_map,cheat_rows ⟨k,by omega⟩ k1];rfl
     rw [List.getElem?_map,Option.map_eq_some_iff] at h4;obtain ⟨y,hy,hy1⟩:=h4;rw [hy,Option.bind_eq_some_iff] at h3;obtain ⟨l,hl,ht⟩:=h3;obtain ⟨y0,y1,m,rfl,hll,hf0,hf1⟩:=trod_struct2 Tryz.underlying206 ht;simp only [DataW.agg.injEq,List.cons.injEq,and_true] at hy1;obtain ⟨v0,e0,e1,_⟩:=DataW.trod_int Tryz.underlying3 hf0;obtain ⟨v1,e2,e3,_⟩:=DataW.trod_string Tryz.underlying9 hf1;have q0:v0=Ci k:=by
       have:=hy1.1;rw [e1] at this;simpa using this
     have q1:v1=cutS k:=by
       have:=hy1.2;rw [e3] at this;have h9:v1.data.toList=Lib.decDigits (5 ^ k):=by simpa using this
       unfold cutS;exact ByteArray.ext (by rw [<-h9])
     rw [hc1] at e0;rw [hcs] at e2;obtain ⟨_,hlen,hcell⟩:=World.cells?_some hl;have c0:l[0]?=some (.int .i64 v0):=by
       have:=congrArg (·[0]?) e0
       simpa using this
     have c1:l[1]?=some (.string v1):=by
       have:=congrArg (·[0]?) e2
       simpa using this
     have d0:=hcell 0 (by omega);have d1:=hcell 1 (by omega);rw [c0,q0] at d0;rw [c1,q1] at d1;exact ⟨d0,d1⟩
theorem pt_rows:∀i:Fin 9,ptL[i.val]?=some (pt i.val):=by decide +kernel
theorem pts_of {W : World} (h : laidMet Tryz.prog [("internal/strconv.powtab", .slice (ptL.map fun z => .lit (.int .i64 ((z : Nat) : Int))) [])] W) :
   ∃(b:Addr) (c:Nat),W.cell? ⟨9,0,none⟩=some (.slice (some b) 9 c)/\∀i,i<9->W.cell? (b.add i)=some (.int .i64 (pt i:Int)):=by
 obtain ⟨ps,⟨g', t', cs,fuel,p,q,hg', ht', hvar,hd,_,_⟩,_⟩:=h
 obtain rfl : 9 = g' := Option.some.inj ((show Tryz.prog.globalNamed "internal/strconv.powtab" = some 9 by kernel_rfl).symm.trans hg')
 obtain rfl:195=t' := Option.some.inj ((show (Tryz.prog.globals[9]?).map (·.type)=some 195 by kernel_rfl).symm.trans ht')
 have hc1:Tryz.prog.cellsOf 3=1:=by kernel_rfl
 rcases DataW.trod_slice Tryz.underlying195 hd with ⟨_,h2⟩ | ⟨a,len,cap,elems,rest,n,rfl,h1,h2,hb,hlc,hcm,hel,hat,_,_⟩
 · have:=congrArg Prod.fst h2
   cases this
 · have hem:elems.map (·.1)=ptL.map fun z=>(DataW.lit (.int .i64 ((z:Nat):Int)):DataW Unit):=by
     have:=congrArg Prod.fst h2;simp only [DataW.slice.injEq] at this;exact this.1.symm
   have hl9:len=9:=by
     have:=congrArg List.length hem;rw [List.length_map,List.length_map,hel] at this;exact this
   rw [hc1] at hat;refine ⟨a,cap,?_,fun i hi=>?_⟩
   · rw [World.var?_cell hg' hvar 0,<-Array.getElem?_toList,h1,hl9];rfl
   · have h3:=hat i (by omega)
     have h4:(elems.map (·.1))[i]?=some (DataW.lit (.int .i64 (pt i))):=by rw [hem,List.getElem?_map,pt_rows ⟨i,hi⟩];rfl
     rw [List.getElem?_map,Option.map_eq_some_iff] at h4;obtain ⟨y,hy,hy1⟩:=h4;rw [hy,Option.bind_eq_some_iff] at h3;obtain ⟨l,hl,ht⟩:=h3;obtain ⟨v,h5,h6,_⟩:=DataW.trod_int Tryz.underlying3 ht;have h7:v=pt i:=by rw [h6] at hy1;simpa using hy1
     rw [h5,h7,Nat.mul_one] at hl;exact cell_of_cells?_one hl
theorem info3_of {W : World} (h : laidMet Tryz.prog [("internal/strconv.float64info", .agg [.lit (.int .u64 52), .lit (.int .u64 11), .lit (.int .i64 (-1023))])] W) :
   W.cell? ⟨7,0,none⟩=some (.int .u64 52)/\W.cell? ⟨7,1,none⟩=some (.int .u64 11)/\W.cell? ⟨7,2,none⟩=some (.int .i64 (-1023)):=by
 obtain ⟨ps,⟨g', t', cs,fuel,p,q,hg', ht', hvar,hd,_,_⟩,_⟩:=h
 obtain rfl : 7 = g' := Option.some.inj ((show Tryz.prog.globalNamed "internal/strconv.float64info" = some 7 by kernel_rfl).symm.trans hg')
 obtain rfl:160=t' := Option.some.inj ((show (Tryz.prog.globals[7]?).map (·.type)=some 160 by kernel_rfl).symm.trans ht')
 have hc1:Tryz.prog.cellsOf 68=1:=by kernel_rfl
 have hc2:Tryz.prog.cellsOf 3=1:=by kernel_rfl
 obtain ⟨y0,y1,y2,n,hyy,hyl,hf0,hf1,hf2⟩:=Go.Deep.trod_struct3 Tryz.underlying160 hd
 have hym:[y0.1,y1.1,y2.1]=[DataW.lit (.int .u64 52),.lit (.int .u64 11),.lit (.int .i64 (-1023))]:=by
   have:=congrArg Prod.fst hyy;simp only [DataW.agg.injEq] at this;exact this.symm
 simp only [List.cons.injEq,and_true] at hym
 obtain ⟨v0,e0,g0,_⟩:=DataW.trod_int Tryz.underlying68 hf0
 obtain ⟨v1,e1,g1,_⟩:=DataW.trod_int Tryz.underlying68 hf1
 obtain ⟨v2,e2,g2,_⟩:=DataW.trod_int Tryz.underlying3 hf2
 have q0:v0=52:=by have:=hym.1;rw [g0] at this;simpa using this
 have q1:v1=11:=by have:=hym.2.1;rw [g1] at this;simpa using this
 have q2:v2=-1023:=by have:=hym.2.2;rw [g2] at this;simpa using this
 rw [hc1] at e0 e1
 rw [hc2] at e2
 have c0:cs[0]?=some (.int .u64 v0):=by
   rw [<-Array.getElem?_toList];have:=congrArg (·[0]?) e0
   simpa using this
 have c1:cs[1]?=some (.int .u64 v1):=by
   rw [<-Array.getElem?_toList];have:=congrArg (·[0]?) e1
   simpa using this
 have c2:cs[2]?=some (.int .i64 v2):=by
   rw [<-Array.getElem?_toList];have:=congrArg (·[0]?) e2
   simpa using this
 refine ⟨?_,?_,?_⟩
 · rw [World.var?_cell hg' hvar 0,c0,q0]
 · rw [World.var?_cell hg' hvar 1,c1,q1]
 · rw [World.var?_cell hg' hvar 2,c2,q2]
theorem slow_of {W:World} {laid:List (String × DataW Unit)} (h0:laidMetH Tryz.prog laid W) (hp:(laid.all fun x=>x.2.handleName?.isNone)=true)
   (e1 : laid.filter (fun x => x.1 == "internal/strconv.leftcheats") = [("internal/strconv.leftcheats", Go.Pinned.leftcheats)])
   (e2 : laid.filter (fun x => x.1 == "internal/strconv.float64info") = [("internal/strconv.float64info", .agg [.lit (.int .u64 52), .lit (.int .u64 11), .lit (.int .i64 (-1023))])])
   (e3 : laid.filter (fun x => x.1 == "internal/strconv.powtab") = [("internal/strconv.powtab", .slice (ptL.map fun z => .lit (.int .i64 ((z : Nat) : Int))) [])]) : Slow W := by
 rw [MakeChecks.laidMetH_plain _ _ _ hp] at h0
 have h1 := h0.filter (fun x => x.1 == "internal/strconv.leftcheats")
 have h2 := h0.filter (fun x => x.1 == "internal/strconv.float64info")
 have h3 := h0.filter (fun x => x.1 == "internal/strconv.powtab")
 rw [e1] at h1
 rw [e2] at h2
 rw [e3] at h3
 obtain ⟨a,b,c⟩:=info3_of h2
 exact ⟨cheats_of h1,pts_of h3,a,b,c⟩
end Go.Proofs.YteoalcmhdoopnaaGreatDoor
namespace Go.Proofs.YteoalcmhdoopnaaGreatDoor
open Go.ChangeShapes Go.WideShapes Go.ChangeAt Go.RowKit Go.Deep
section
variable {H:Type} {enc:TypeId × Value->H} {P:Program} {w:World}
theorem E4 {W W' : World} (hl:laidOutB P=true) (hb:Below W.heap.size W W'):∀{ts:List TypeId} {vs:List Value} {ds:List (DataW H)} {ps:List MemPlace},
   (ts.all fun t=>P.readableRec t && decide (t<P.types.size))=true->DataW.TrodAll enc P W 0 (fun _=>true) true ts vs ds ps->DataW.TrodAll enc P W' 0 (fun b=>decide (b<W.heap.size)) true ts vs ds ps
 | [],vs,ds,ps,_,h=>by
   obtain ⟨rfl,rfl,rfl⟩:=trodAll_nil h;exact trodAll_mk0
 | t :: ts,vs,ds,ps,hts,h=>by
   obtain ⟨v,vs', d,ds', p,q,rfl,rfl,rfl,h1,h2⟩:=trodAll_cons h;simp only [List.all_cons,Bool.and_eq_true,decide_eq_true_eq] at hts;refine trodAll_cons_mk (Below.trod hl hts.1.1 hts.1.2 h1 hb ?_) (E4 hl hb (by simpa using hts.2) h2);obtain ⟨m,hm⟩:=h1;exact DataW.trod_lt m _ _ _ hm
end
end Go.Proofs.YteoalcmhdoopnaaGreatDoor
namespace Go.Proofs.YteoalcmhdoopnaaGreatDoor
open Go.ChangeShapes Go.WideShapes Go.ChangeAt Go.RowKit
theorem star_errT : "*" ++ "errors.errorString" = "*errors.errorString" := by decide
theorem row_errT (u : TypeId) (h : Tryz.prog.typeName? 3 u = some "*errors.errorString") : u = 174 :=
 typeName_ptr_named (nm := "errors.errorString") (by rw [star_errT]; kernel_rfl) (by kernel_rfl) (by decide) u (by rw [star_errT]; exact h)
theorem glob_rngT : Tryz.prog.globalNamed "strconv.ErrRange" = some 2 := by kernel_rfl
theorem rng_of {W:World} {laid:List (String × DataW Unit)} (h0:laidMetH Tryz.prog laid W) (hp:(laid.all fun x=>x.2.handleName?.isNone)=true)
   (e3 : laid.filter (fun x => x.1 == "strconv.ErrRange") = [("strconv.ErrRange", .iface "*errors.errorString" (.ptr (.agg [.lit (.string [118, 97, 108, 117, 101, 32, 111, 117, 116, 32, 111, 102, 32, 114, 97, 110, 103, 101])])))]) : Rng W := by
 rw [MakeChecks.laidMetH_plain _ _ _ hp] at h0
 have h3 := h0.filter (fun x => x.1 == "strconv.ErrRange")
 rw [e3] at h3
 obtain ⟨a,s,hv,_⟩:=laid_sentinel (g:=2) (ti:=76) (tp:=174) (te:=176) h3 glob_rngT (by kernel_rfl) Tryz.underlying76 row_errT Tryz.underlying174 Tryz.underlying176 rfl rfl Tryz.underlying9 (by kernel_rfl) (by kernel_rfl)
 exact ⟨_,_,(World.var?_cell glob_rngT hv 0).trans rfl⟩
end Go.Proofs.YteoalcmhdoopnaaGreatDoor
namespace Go.Proofs.YteoalcmhdoopnaaGreatDoor
open Go.ChangeShapes Go.WideShapes Go.ChangeAt Go.RowKit Go.Deep
theorem star_err : "*" ++ "errors.errorString" = "*errors.errorString" := by decide
theorem row_err (u : TypeId) (h : Tryz.prog.typeName? 3 u = some "*errors.errorString") : u = 174 :=
 typeName_ptr_named (nm := "errors.errorString") (by rw [star_err]; kernel_rfl) (by kernel_rfl) (by decide) u (by rw [star_err]; exact h)
theorem nums_of {W:World} {laid:List (String × DataW Unit)} (h0:laidMetH Tryz.prog laid W) (hp:(laid.all fun x=>x.2.handleName?.isNone)=true)
   (e1 : laid.filter (fun x => x.1 == "internal/strconv.uint64pow10") = [("internal/strconv.uint64pow10", Lib.tabData .u64 Lib.pow10Tab)])
   (e2 : laid.filter (fun x => x.1 == "strconv.ErrSyntax") = [("strconv.ErrSyntax", .iface "*errors.errorString" (.ptr (.agg [.lit (.string [105, 110, 118, 97, 108, 105, 100, 32, 115, 121, 110, 116, 97, 120])])))])
   (e3 : laid.filter (fun x => x.1 == "strconv.ErrRange") = [("strconv.ErrRange", .iface "*errors.errorString" (.ptr (.agg [.lit (.string [118, 97, 108, 117, 101, 32, 111, 117, 116, 32, 111, 102, 32, 114, 97, 110, 103, 101])])))]) : Nums W := by
 rw [MakeChecks.laidMetH_plain _ _ _ hp] at h0
 have h1 := h0.filter (fun x => x.1 == "internal/strconv.uint64pow10")
 have h2 := h0.filter (fun x => x.1 == "strconv.ErrSyntax")
 have h3 := h0.filter (fun x => x.1 == "strconv.ErrRange")
 rw [e1] at h1
 rw [e2] at h2
 rw [e3] at h3
 refine ⟨Lib.tabIs_of_head (g:=3) (t:=132) (e:=25) (n:=20) (by kernel_rfl) (by kernel_rfl) Tryz.underlying132 Tryz.underlying25 (by kernel_rfl) (by kernel_rfl) h1,?_,?_⟩
 · obtain ⟨a,s,hv,_⟩:=laid_sentinel (g:=1) (ti:=76) (tp:=174) (te:=176) h2 glob_syn (by kernel_rfl) Tryz.underlying76 row_err Tryz.underlying174 Tryz.underlying176 rfl rfl Tryz.underlying9 (by kernel_rfl) (by kernel_rfl)
   exact ⟨_,_,hv⟩
 · obtain ⟨a,s,hv,_⟩:=laid_sentinel (g:=2) (ti:=76) (tp:=174) (te:=176) h3 glob_rng (by kernel_rfl) Tryz.underlying76 row_err Tryz.underlying174 Tryz.underlying176 rfl rfl Tryz.underlying9 (by kernel_rfl) (by kernel_rfl)
   exact ⟨_,_,hv⟩
end Go.Proofs.YteoalcmhdoopnaaGreatDoor
