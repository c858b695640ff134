/- real.Parse where the text is a number's and is read without an error; real.Add; the chapter's example. -/
import Derived.Test.YtagkgfniihiinaaGreatDoorJ24
import Derived.Test.YtagkgfniihiinaaGreatDoorReadF
import Derived.Lib.ConvBytes
import Derived.Lib.SmallJoins
import Derived.Test.YtagkgfniihiinaaGreatDoorJ45
namespace Go.Proofs.YtagkgfniihiinaaGreatDoor
open Go.RowKit
theorem Par.below {w w' : World} (h : Par w) (hb : Below w.heap.size w w') : Par w':=by
 obtain ⟨h1,h2,b,c,h3,h4⟩:=h;exact ⟨Aa hb _ _ h1,Aa hb _ _ h2,b,c,Aa hb _ _ h3,fun i z hz => by
   have h5:=h4 i z hz;exact (hb.cell (World.block_lt_of_cell? _ _ h5)).trans h5⟩
end Go.Proofs.YtagkgfniihiinaaGreatDoor
namespace Go.Proofs.YtagkgfniihiinaaGreatDoor
open Go.ChangeShapes Go.WideShapes Go.ChangeAt Go.RowKit
theorem opt_of {W : World} (h : laidMet Tryz.prog [("internal/strconv.optimize", .lit (.bool true))] W) : W.cell? ⟨2, 0, none⟩ = some (.bool true) := by
 obtain ⟨ps,⟨g',t',cs,fuel,p,q,hg',ht',hvar,hd,_,_⟩,_⟩:=h;obtain rfl : 2 = g' := Option.some.inj ((show Tryz.prog.globalNamed "internal/strconv.optimize" = some 2 by kernel_rfl).symm.trans hg');obtain rfl : 4 = t':=Option.some.inj ((show (Tryz.prog.globals[2]?).map (·.type) = some 4 by kernel_rfl).symm.trans ht')
 obtain ⟨b,h1,h2⟩:=DataW.trod_bool Tryz.underlying4 hd;have h3 : b = true:=by
   have:=congrArg Prod.fst h2;simp only [DataW.lit.injEq,Lit.bool.injEq] at this;exact this.symm
 rw [World.var?_cell hg' hvar 0,<- Array.getElem?_toList,h1,h3]; rfl
theorem info_of {W : World} (h : laidMet Tryz.prog [("internal/strconv.float64info", .agg [.lit (.int .u64 52), .lit (.int .u64 11), .lit (.int .i64 (-1023))])] W) : W.cell? ⟨7, 0, none⟩ = some (.int .u64 52) := by
 obtain ⟨ps,⟨g',t',cs,fuel,p,q,hg',ht',hvar,hd,_,_⟩,_⟩:=h;obtain rfl : 7 = g' := Option.some.inj ((show Tryz.prog.globalNamed "internal/strconv.float64info" = some 7 by kernel_rfl).symm.trans hg');obtain rfl : 267 = t':=Option.some.inj ((show (Tryz.prog.globals[7]?).map (·.type) = some 267 by kernel_rfl).symm.trans ht')
 obtain ⟨ys,n,rfl,hyy,hyl,hys,hyf⟩:=DataW.trod_struct Tryz.underlying267 hd;have hc1 : Tryz.prog.cellsOf 83 = 1:=by kernel_rfl
 have hym : ys.map (·.1) = [DataW.lit (.int .u64 52),.lit (.int .u64 11),.lit (.int .i64 (-1023))]:=by
   have:=congrArg Prod.fst hyy;simp only [DataW.agg.injEq] at this;exact this.symm
 obtain ⟨y0,y1,y2,rfl⟩ : ∃ y0 y1 y2,ys = [y0,y1,y2]:=by
   match ys,hys with
   | [a,b,c],_ => exact ⟨a,b,c,rfl⟩
 simp only [List.map_cons,List.map_nil,List.cons.injEq,and_true] at hym;have hf0 : DataW.trod (fun _ => ()) Tryz.prog W 0 (fun _ => true) false n 83 ((cs.toList.drop 0).take 1) = some y0:=by
   have:=hyf 0 _ rfl;rw [show (#[(_ : Field),_,_])[0].type = 83 from rfl,hc1] at this;exact this
 obtain ⟨v,h1,h2,_⟩:=DataW.trod_int Tryz.underlying83 hf0;have h3 : v = 52:=by
   have:=hym.1;rw [h2] at this;simpa using this
 rw [World.var?_cell hg' hvar 0,<- Array.getElem?_toList];have h4:=congrArg (·[0]?) h1
 simp only [List.getElem?_take,List.getElem?_drop] at h4;rw [if_pos (by omega)] at h4;rw [h3] at h4;simpa using h4
theorem tens_of {W : World} (h : laidMet Tryz.prog [("internal/strconv.float64pow10", .slice (f10L.map fun z => .lit (.float .f64 z)) [])] W) :
   ∃ (b : Addr) (c : Nat),W.cell? ⟨14,0,none⟩ = some (.slice (some b) 23 c) /\ ∀ i z,f10L[i]? = some z -> W.cell? (b.add i) = some (.float .f64 z):=by
 obtain ⟨ps,⟨g',t',cs,fuel,p,q,hg',ht',hvar,hd,_,_⟩,_⟩:=h
 obtain rfl : 14 = g' := Option.some.inj ((show Tryz.prog.globalNamed "internal/strconv.float64pow10" = some 14 by kernel_rfl).symm.trans hg')
 obtain rfl : 305 = t':=Option.some.inj ((show (Tryz.prog.globals[14]?).map (·.type) = some 305 by kernel_rfl).symm.trans ht')
 have hc1 : Tryz.prog.cellsOf 23 = 1:=by kernel_rfl
 rcases DataW.trod_slice Tryz.underlying305 hd with ⟨_,h2⟩ | ⟨a,len,cap,elems,rest,n,rfl,h1,h2,hb,hlc,hcm,hel,hat,_,_⟩
 · have:=congrArg Prod.fst h2
   cases this
 · have hem : elems.map (·.1) = f10L.map fun z => (DataW.lit (.float .f64 z) : DataW Unit):=by
     have:=congrArg Prod.fst h2;simp only [DataW.slice.injEq] at this;exact this.1.symm
   have hl23 : len = 23:=by
     have:=congrArg List.length hem;rw [List.length_map,List.length_map,hel] at this;exact this
   rw [hc1] at hat;refine ⟨a,cap,?_,fun i z hz => ?_⟩
   · rw [World.var?_cell hg' hvar 0,<- Array.getElem?_toList,h1,hl23]; rfl
   · have hi : i < 23:=(List.getElem?_eq_some_iff.1 hz).1
     have h3:=hat i (by omega);have h4 : (elems.map (·.1))[i]? = some (DataW.lit (.float .f64 z)):=by rw [hem,List.getElem?_map,hz]; rfl
     rw [List.getElem?_map,Option.map_eq_some_iff] at h4;obtain ⟨y,hy,hy1⟩:=h4;rw [hy,Option.bind_eq_some_iff] at h3;obtain ⟨l,hl,ht⟩:=h3;obtain ⟨v,h5,h6⟩:=trod_float Tryz.underlying23 ht;have h7 : v = z:=by rw [h6] at hy1; simpa using hy1
     rw [h5,h7,Nat.mul_one] at hl;exact cell_of_cells?_one hl
theorem par_of {W : World} {laid : List (String × DataW Unit)} (h0 : laidMetH Tryz.prog laid W) (hp : (laid.all fun x => x.2.handleName?.isNone) = true)
   (e1 : laid.filter (fun x => x.1 == "internal/strconv.optimize") = [("internal/strconv.optimize", .lit (.bool true))])
   (e2 : laid.filter (fun x => x.1 == "internal/strconv.float64info") = [("internal/strconv.float64info", .agg [.lit (.int .u64 52), .lit (.int .u64 11), .lit (.int .i64 (-1023))])])
   (e3 : laid.filter (fun x => x.1 == "internal/strconv.float64pow10") = [("internal/strconv.float64pow10", .slice (f10L.map fun z => .lit (.float .f64 z)) [])]) : Par W := by
 rw [MakeChecks.laidMetH_plain _ _ _ hp] at h0
 have h1 := h0.filter (fun x => x.1 == "internal/strconv.optimize")
 have h2 := h0.filter (fun x => x.1 == "internal/strconv.float64info")
 have h3 := h0.filter (fun x => x.1 == "internal/strconv.float64pow10")
 rw [e1] at h1
 rw [e2] at h2
 rw [e3] at h3
 exact ⟨opt_of h1,info_of h2,tens_of h3⟩
end Go.Proofs.YtagkgfniihiinaaGreatDoor
