/- What the statements' arguments read as, opened; no number of this program's stands here. -/
import Derived.Test.YtagkgfniihiinaaGreatDoorJ43
import Derived.ProofKit
import Derived.OpenShut
import Derived.ShutString
import Derived.ChangeOld
import Derived.Deep.Slices
import Derived.Deep.Fields
import Derived.ChangeSame
import Derived.Test.YtagkgfniihiinaaGreatDoorJ57
import Derived.Stop.LaidErr
import Derived.Test.YtagkgfniihiinaaGreatDoorNums
import Derived.LaidMore
import Derived.LaidSub
import Derived.LaidLaws
import Derived.Lib.LaidTab
import Derived.Lay
import Derived.Test.YtagkgfniihiinaaGreatDoorJ45
import Derived.Test.YtagkgfniihiinaaGreatDoorJ16
import Derived.Test.YtagkgfniihiinaaGreatDoorVal
import Derived.Test.YtagkgfniihiinaaGreatDoorJ51
namespace Go.Proofs.YtagkgfniihiinaaGreatDoor
open Go.ChangeShapes Go.WideShapes Go.ChangeAt Go.RowKit Go.Deep
section
variable {H : Type} {enc : TypeId × Value -> H} {P : Program} {w : World}
theorem F8 {W W' : World} (hl : laidOutB P = true) (hb : Below W.heap.size W W') : ∀ {ts : List TypeId} {vs : List Value} {ds : List (DataW H)} {ps : List MemPlace},
   (ts.all fun t => P.readableRec t && decide (t < P.types.size)) = true -> DataW.TrodAll enc P W 0 (fun _ => true) true ts vs ds ps -> DataW.TrodAll enc P W' 0 (fun b => decide (b < W.heap.size)) true ts vs ds ps
 | [],vs,ds,ps,_,h => by
   obtain ⟨rfl,rfl,rfl⟩:=trodAll_nil h;exact trodAll_mk0
 | t :: ts,vs,ds,ps,hts,h => by
   obtain ⟨v,vs',d,ds',p,q,rfl,rfl,rfl,h1,h2⟩:=trodAll_cons h;simp only [List.all_cons,Bool.and_eq_true,decide_eq_true_eq] at hts;refine trodAll_cons_mk (Below.trod hl hts.1.1 hts.1.2 h1 hb ?_) (F8 hl hb (by simpa using hts.2) h2);obtain ⟨m,hm⟩:=h1;exact DataW.trod_lt m _ _ _ hm
theorem exists_list {α : Type} {R : Nat -> α -> Prop} : ∀ (n : Nat),(∀ i,i < n -> ∃ x,R i x) -> ∃ l : List α,l.length = n /\ ∀ i (h : i < l.length),R i l[i]
 | 0,_ => ⟨[],rfl,fun i h => by simp at h⟩
 | n + 1,h => by
   obtain ⟨l,hl,hr⟩:=exists_list n (fun i hi => h i (by omega));obtain ⟨x,hx⟩:=h n (by omega);refine ⟨l ++ [x],by simp [hl],fun i hi => ?_⟩;by_cases hn : i < l.length
   · rw [List.getElem_append_left hn]; exact hr i hn
   · simp at hi
     have : i = l.length:=by omega
     subst this;rw [List.getElem_append_right (by omega)];simpa [hl] using hx
theorem add_plain {ad : Addr} {v : Value} (h : w.cell? (ad.add 0) = some v) : ∃ b o,ad = ⟨b,o,none⟩:=by
 cases ad with
 | mk b o s =>
   cases s with
   | none => exact ⟨b,o,rfl⟩
   | some s =>
     simp [Addr.add,World.cell?] at h;split at h <;> simp at h
theorem add_mk (b o j : Nat) : (⟨b,o,none⟩ : Addr).add j = ⟨b,o + j,none⟩:=by
 unfold Addr.add; split
 · rename_i h; simp [h]
 · rfl
end
end Go.Proofs.YtagkgfniihiinaaGreatDoor
namespace Go.Proofs.YtagkgfniihiinaaGreatDoor
open Go.ChangeShapes Go.WideShapes Go.ChangeAt Go.RowKit
theorem star_err : "*" ++ "errors.errorString" = "*errors.errorString" := by decide
theorem row_err (u : TypeId) (h : Tryz.prog.typeName? 3 u = some "*errors.errorString") : u = 246 :=
 typeName_ptr_named (nm := "errors.errorString") (by rw [star_err]; kernel_rfl) (by kernel_rfl) (by decide) u (by rw [star_err]; exact h)
theorem glob_rngT : Tryz.prog.globalNamed "strconv.ErrRange" = some 4 := by kernel_rfl
theorem rng_of {W : World} {laid : List (String × DataW Unit)} (h0 : laidMetH Tryz.prog laid W) (hp : (laid.all fun x => x.2.handleName?.isNone) = true)
   (e3 : laid.filter (fun x => x.1 == "strconv.ErrRange") = [("strconv.ErrRange", .iface "*errors.errorString" (.ptr (.agg [.lit (.string [118, 97, 108, 117, 101, 32, 111, 117, 116, 32, 111, 102, 32, 114, 97, 110, 103, 101])])))]) : Rng W := by
 rw [MakeChecks.laidMetH_plain _ _ _ hp] at h0
 have h3 := h0.filter (fun x => x.1 == "strconv.ErrRange")
 rw [e3] at h3
 obtain ⟨a,s,hv,_⟩:=laid_sentinel (g:=4) (ti:=106) (tp:=246) (te:=248) h3 glob_rngT (by kernel_rfl) Tryz.underlying106 row_err Tryz.underlying246 Tryz.underlying248 rfl rfl Tryz.underlying9 (by kernel_rfl) (by kernel_rfl)
 exact ⟨_,_,(World.var?_cell glob_rngT hv 0).trans rfl⟩
theorem nums_of {W : World} {laid : List (String × DataW Unit)} (h0 : laidMetH Tryz.prog laid W) (hp : (laid.all fun x => x.2.handleName?.isNone) = true)
   (e1 : laid.filter (fun x => x.1 == "internal/strconv.uint64pow10") = [("internal/strconv.uint64pow10", Lib.tabData .u64 Lib.pow10Tab)])
   (e2 : laid.filter (fun x => x.1 == "strconv.ErrSyntax") = [("strconv.ErrSyntax", .iface "*errors.errorString" (.ptr (.agg [.lit (.string [105, 110, 118, 97, 108, 105, 100, 32, 115, 121, 110, 116, 97, 120])])))])
   (e3 : laid.filter (fun x => x.1 == "strconv.ErrRange") = [("strconv.ErrRange", .iface "*errors.errorString" (.ptr (.agg [.lit (.string [118, 97, 108, 117, 101, 32, 111, 117, 116, 32, 111, 102, 32, 114, 97, 110, 103, 101])])))]) : Nums W := by
 rw [MakeChecks.laidMetH_plain _ _ _ hp] at h0
 have h1 := h0.filter (fun x => x.1 == "internal/strconv.uint64pow10")
 have h2 := h0.filter (fun x => x.1 == "strconv.ErrSyntax")
 have h3 := h0.filter (fun x => x.1 == "strconv.ErrRange")
 rw [e1] at h1
 rw [e2] at h2
 rw [e3] at h3
 refine ⟨Lib.tabIs_of_head (g:=5) (t:=223) (e:=60) (n:=20) (by kernel_rfl) (by kernel_rfl) Tryz.underlying223 Tryz.underlying60 (by kernel_rfl) (by kernel_rfl) h1,?_,?_⟩
 · obtain ⟨a,s,hv,_⟩:=laid_sentinel (g:=3) (ti:=106) (tp:=246) (te:=248) h2 glob_syn (by kernel_rfl) Tryz.underlying106 row_err Tryz.underlying246 Tryz.underlying248 rfl rfl Tryz.underlying9 (by kernel_rfl) (by kernel_rfl)
   exact ⟨_,_,hv⟩
 · obtain ⟨a,s,hv,_⟩:=laid_sentinel (g:=4) (ti:=106) (tp:=246) (te:=248) h3 glob_rng (by kernel_rfl) Tryz.underlying106 row_err Tryz.underlying246 Tryz.underlying248 rfl rfl Tryz.underlying9 (by kernel_rfl) (by kernel_rfl)
   exact ⟨_,_,hv⟩
theorem floF_of {W : World} {laid : List (String × DataW Unit)} (h0 : laidMetH Tryz.prog laid W) (hp : (laid.all fun x => x.2.handleName?.isNone) = true)
   (e1 : laid.filter (fun x => x.1 == "internal/strconv.uint64pow10") = [("internal/strconv.uint64pow10", Lib.tabData .u64 Lib.pow10Tab)])
   (e2 : laid.filter (fun x => x.1 == "internal/strconv.pow10Tab") = [("internal/strconv.pow10Tab", Go.Pinned.pow10Tab)]) : Flo W := by
 rw [MakeChecks.laidMetH_plain _ _ _ hp] at h0
 have h1 := h0.filter (fun x => x.1 == "internal/strconv.uint64pow10")
 have h2 := h0.filter (fun x => x.1 == "internal/strconv.pow10Tab")
 rw [e1] at h1
 rw [e2] at h2
 exact ⟨pows_of h2,Lib.tabIs_of_head (g:=5) (t:=223) (e:=60) (n:=20) (by kernel_rfl) (by kernel_rfl) Tryz.underlying223 Tryz.underlying60 (by kernel_rfl) (by kernel_rfl) h1⟩
end Go.Proofs.YtagkgfniihiinaaGreatDoor
namespace Go.Proofs.YtagkgfniihiinaaGreatDoor
open Go.ChangeShapes Go.WideShapes Go.ChangeAt Go.RowKit Go.Deep
theorem trod_float' {H : Type} {enc : TypeId × Value -> H} {P : Program} {w : World} {base : Nat} {spare : Nat -> Bool} {held : Bool} {fuel : Nat} {t : TypeId} {cs : List Value} {x : DataW H × List MemPlace} {k : FloatKind} (ht : P.underlying t = some (.float k))
   (h : DataW.trod enc P w base spare held fuel t cs = some x) : ∃ b,cs = [.float k b]:=by
 cases fuel with
 | zero => simp [DataW.trod] at h
 | succ n =>
   unfold DataW.trod at h;rw [ht] at h;split at h <;> simp_all
theorem six_of {cs : List Value} (h : cs.length = 6) : ∃ a b c d e f,cs = [a,b,c,d,e,f]:=by
 match cs,h with
 | [a,b,c,d,e,f],_ => exact ⟨a,b,c,d,e,f,rfl⟩
theorem sizedL_of {l : List V} (h : ∀ x ∈ l,x.sized) : V.sizedL l:=by
 induction l with
 | nil => trivial
 | cons y l ih => exact ⟨h y (by simp),ih fun x hx => h x (by simp [hx])⟩
theorem trod_floatW {H : Type} {enc : TypeId × Value -> H} {P : Program} {w : World} {base : Nat} {spare : Nat -> Bool} {held : Bool} {fuel : Nat} {t : TypeId} {cs : List Value} {x : DataW H × List MemPlace} (ht : P.underlying t = some (.float .f64))
   (h : DataW.trod enc P w base spare held fuel t cs = some x) : ∃ b,cs = [.float .f64 b] /\ b < 18446744073709551616:=by
 obtain ⟨b,rfl⟩:=trod_float' ht h
 refine ⟨b,rfl,?_⟩
 cases fuel with
 | zero => simp [DataW.trod] at h
 | succ n =>
   unfold DataW.trod at h;simp only [ht,Lit.wf,true_and,decide_eq_true_eq] at h;split at h
   · assumption
   · cases h
set_option maxHeartbeats 1600000 in
theorem open_valueG {H : Type} {enc : TypeId × Value -> H} {w : World} : ∀ (fuel : Nat) (cs : List Value) (x : DataW H × List MemPlace),DataW.trod enc Tryz.prog w 0 (fun _ => true) true fuel 26 cs = some x ->
   ∃ (v : V) (a : Option Addr) (cap : Nat),cs = Ae v.kind v.text v.int v.real v.flag a v.list.length cap /\ RV w.cell? cs v /\ v.sized /\ v.ranged:=by
 intro fuel
 induction fuel using Nat.strongRecOn with
 | ind fuel ih =>
 intro cs x h
 obtain ⟨xs,n,rfl,hx,hlen,hxl,hf⟩:=DataW.trod_struct Tryz.underlying26 h
 have hC : Tryz.prog.cellsOf 26 = 6:=by kernel_rfl
 rw [hC] at hlen
 obtain ⟨c0,c1,c2,c3,c4,c5,rfl⟩:=six_of hlen
 have g : ∀ i (hi : i < xs.length),xs[i]? = some xs[i]:=fun i hi => List.getElem?_eq_getElem hi
 have hx6 : xs.length = 6:=hxl
 have key : ∀ (i : Nat) (f : Field) (c : Value),_ -> Tryz.prog.cellsOf f.type = 1 -> (([c0,c1,c2,c3,c4,c5] : List Value).drop f.offset).take 1 = [c] -> DataW.trod enc Tryz.prog w 0 (fun _ => true) true n f.type [c] = xs[i]?:=fun i f c h1 h2 h3 => by
   have:=hf i f h1;rw [h2,h3] at this;exact this
 have f0 : DataW.trod enc Tryz.prog w 0 (fun _ => true) true n 3 [c0] = some xs[0]:=(key 0 _ c0 rfl (by kernel_rfl) rfl).trans (g 0 (by omega))
 have f1 : DataW.trod enc Tryz.prog w 0 (fun _ => true) true n 9 [c1] = some xs[1]:=(key 1 _ c1 rfl (by kernel_rfl) rfl).trans (g 1 (by omega))
 have f2 : DataW.trod enc Tryz.prog w 0 (fun _ => true) true n 2 [c2] = some xs[2]:=(key 2 _ c2 rfl (by kernel_rfl) rfl).trans (g 2 (by omega))
 have f3 : DataW.trod enc Tryz.prog w 0 (fun _ => true) true n 23 [c3] = some xs[3]:=(key 3 _ c3 rfl (by kernel_rfl) rfl).trans (g 3 (by omega))
 have f4 : DataW.trod enc Tryz.prog w 0 (fun _ => true) true n 4 [c4] = some xs[4]:=(key 4 _ c4 rfl (by kernel_rfl) rfl).trans (g 4 (by omega))
 have f5 : DataW.trod enc Tryz.prog w 0 (fun _ => true) true n 24 [c5] = some xs[5]:=(key 5 _ c5 rfl (by kernel_rfl) rfl).trans (g 5 (by omega))
 obtain ⟨k,e0,_⟩:=DataW.trod_int Tryz.underlying3 f0
 obtain ⟨t,e1,_,htm⟩:=DataW.trod_string Tryz.underlying9 f1
 have htm : t.size <= 9223372036854775807:=htm
 obtain ⟨i,e2,_,e2w⟩:=DataW.trod_int Tryz.underlying2 f2
 have hi64 : -9223372036854775808 <= i /\ i <= 9223372036854775807:=by
   rw [Lit.wf,Bool.and_eq_true,decide_eq_true_eq,decide_eq_true_eq] at e2w;exact e2w
 obtain ⟨r,e3,hr64⟩:=trod_floatW Tryz.underlying23 f3
 obtain ⟨b,e4,_⟩:=DataW.trod_bool Tryz.underlying4 f4
 simp only [List.cons.injEq,and_true] at e0 e1 e2 e3 e4
 subst e0; subst e1; subst e2; subst e3; subst e4
 rcases DataW.trod_slice Tryz.underlying24 f5 with ⟨e5,_⟩ | ⟨ad,len,cap,elems,rest,m,rfl,e5,_,_,hlc,_,hel,hi,_⟩
 · simp only [List.cons.injEq,and_true] at e5
   subst e5;exact ⟨.mk k t i r b [],none,0,rfl,RV.leaf _ _ _ _ _ _ _ _,(V.sized_eq _).2 ⟨htm,trivial⟩,(V.ranged_eq _).2 ⟨hi64.1,hi64.2,hr64,trivial⟩⟩
 · simp only [List.cons.injEq,and_true] at e5
   subst e5;rw [hC] at hi;obtain ⟨ps,hpl,hpr⟩:=exists_list (R:=fun j (p : List Value × V) => w.cells? 0 (ad.add (j * 6)) 6 = some p.1 /\ RV w.cell? p.1 p.2 /\ p.2.sized /\ p.2.ranged) len (fun j hj => by
     have h1:=hi j hj;rw [List.getElem?_eq_getElem (by omega)] at h1;obtain ⟨cs',h2,h3⟩:=Option.bind_eq_some_iff.1 h1;obtain ⟨v,_,_,_,hv,hvs⟩:=ih m (by omega) cs' _ h3;exact ⟨(cs',v),h2,hv,hvs⟩)
   refine ⟨.mk k t i r b (ps.map (·.2)),some ad,cap,by simp [Ae,V.kind,V.text,V.int,V.real,V.flag,V.list,hpl],RV.mk k t i r b (some ad) len cap (ps.map (·.2)) (ps.map (·.1)) (by simp [hpl]) (by simp) (fun j x hx => ?_) (fun j x y hx hy => ?_),(V.sized_eq _).2 ⟨htm,sizedL_of fun x hx => ?_⟩,(V.ranged_eq _).2 ⟨hi64.1,hi64.2,hr64,C2 fun x hx => ?_⟩⟩
   · obtain ⟨p,hp,rfl⟩:=List.mem_map.1 (List.mem_of_getElem? hx)
     rw [List.getElem?_map] at hx;obtain ⟨p',hp',hpe⟩:=Option.map_eq_some_iff.1 hx;obtain ⟨hjl,rfl⟩:=List.getElem?_eq_some_iff.1 hp';obtain ⟨_,h6,hat⟩:=World.cells?_some (hpr j hjl).1;have h60:=hpr 0 (by omega);obtain ⟨_,h60',hat0⟩:=World.cells?_some h60.1;have e0 : w.cell? (ad.add 0) = some (ps[0].1[0]'(by omega)):=by
       have:=hat0 0 (by omega);rw [List.getElem?_eq_getElem (by omega)] at this;simpa [Addr.add] using this
     obtain ⟨b0,o0,rfl⟩:=add_plain e0;refine ⟨b0,o0,rfl,fun q u hu => ?_⟩;rw [<- hpe] at hu;have hq : q < 6:=by have:=(List.getElem?_eq_some_iff.1 hu).1; omega
     have:=hat q hq;rw [add_mk,add_mk,hu] at this;exact this
   · rw [List.getElem?_map] at hx hy
     obtain ⟨p,hp,rfl⟩:=Option.map_eq_some_iff.1 hx;rw [hp] at hy;simp at hy;subst hy;obtain ⟨hjl,rfl⟩:=List.getElem?_eq_some_iff.1 hp;exact (hpr j hjl).2.1
   · obtain ⟨p,hp,rfl⟩:=List.mem_map.1 hx
     obtain ⟨j,hjl,rfl⟩:=List.getElem_of_mem hp;exact (hpr j hjl).2.2.1
   · obtain ⟨p,hp,rfl⟩:=List.mem_map.1 hx
     obtain ⟨j,hjl,rfl⟩:=List.getElem_of_mem hp;exact (hpr j hjl).2.2.2
end Go.Proofs.YtagkgfniihiinaaGreatDoor
