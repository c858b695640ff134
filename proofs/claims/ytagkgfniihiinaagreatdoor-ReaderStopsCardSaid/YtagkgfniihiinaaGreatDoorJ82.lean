/- What is laid at the start for reading floats of many digits. -/
import Derived.Test.YtagkgfniihiinaaGreatDoorJ62
import Derived.Test.YtagkgfniihiinaaGreatDoorRdA
import Derived.Shelf.Bytes.SlSmallAll
set_option linter.all false
set_option maxHeartbeats 6400000
set_option maxRecDepth 100000
namespace Go.Proofs.YtagkgfniihiinaaGreatDoor
open Go.ChangeShapes Go.WideShapes Go.ChangeAt Go.RowKit
theorem cheat_rows:∀k:Fin 61,1<=k.val->Go.Pinned.cheatRows[k.val]?=some (Db k.val,Lib.decDigits (5 ^ k.val)):=by decide +kernel
theorem cheat_len:Go.Pinned.cheatRows.length=61:=by decide +kernel
theorem cheats_of {W : World} (h : laidMet Tryz.prog [("internal/strconv.leftcheats", Go.Pinned.leftcheats)] W) :
  ∃(b:Addr) (c:Nat),W.cell? ⟨9,0,none⟩=some (.slice (some b) 61 c)/\∀k,1<=k->k<=60->W.cell? (b.add (k * 2))=some (.int .i64 (Db k:Int))/\W.cell? ⟨(b.add (k * 2)).block,(b.add (k * 2)).off+1,none⟩=some (.string (cutS k)):=by
 obtain ⟨ps,⟨g', t', cs,fuel,p,q,j, v, o,hd,_,_⟩,_⟩:=h;obtain rfl : 9 = g' := Option.some.inj ((show Tryz.prog.globalNamed "internal/strconv.leftcheats" = some 9 by kernel_rfl).symm.trans j);obtain rfl:296=t' := Option.some.inj ((show (Tryz.prog.globals[9]?).map (·.type)=some 296 by kernel_rfl).symm.trans v)
 have s:Tryz.prog.cellsOf 295=2:=by kernel_rfl
 have t:Tryz.prog.cellsOf 3=1:=by kernel_rfl
 have u:Tryz.prog.cellsOf 9=1:=by kernel_rfl
 rcases DataW.trod_slice Tryz.underlying296 hd with ⟨_,h2⟩ | ⟨a,z,aa,d,rest,n,rfl,h1,h2,hb,hlc,hcm,ab,r,_,_⟩
 ·have:=congrArg Prod.fst h2
  cases this
 ·have g:d.map (·.1)=Go.Pinned.cheatRows.map fun x=>(DataW.agg [.lit (.int .i64 x.1),.lit (.string x.2)]:DataW Unit):=by
   have:=congrArg Prod.fst h2;unfold Go.Pinned.leftcheats at this;simp only [DataW.slice.injEq] at this;exact this.1.symm
  have i:z=61:=by
   have:=congrArg List.length g;rw [List.length_map,List.length_map,ab,cheat_len] at this;exact this
  rw [s] at r;refine ⟨a,aa,?_,fun k k1 k2=>?_⟩
  ·rw [World.var?_cell j o 0,<-Array.getElem?_toList,h1,i];rfl
  ·have h3:=r k (by omega)
   have h4:(d.map (·.1))[k]?=some (DataW.agg [.lit (.int .i64 (Db k)),.lit (.string (Lib.decDigits (5 ^ k)))]):=by
    rw [g,List.getElem?_map,cheat_rows ⟨k,by omega⟩ k1];rfl
   rw [List.getElem?_map,Option.map_eq_some_iff] at h4;obtain ⟨y,hy,f⟩:=h4;rw [hy,Option.bind_eq_some_iff] at h3;obtain ⟨l,hl,ht⟩:=h3;obtain ⟨y0,y1,m,rfl,hll,ac,ad⟩:=trod_struct2 Tryz.underlying295 ht;simp only [DataW.agg.injEq,List.cons.injEq,and_true] at f;obtain ⟨v0,e0,e1,_⟩:=DataW.trod_int Tryz.underlying3 ac;obtain ⟨v1,e2,e3,_⟩:=DataW.trod_string Tryz.underlying9 ad;have q0:v0=Db k:=by
    have:=f.1;rw [e1] at this;simpa using this
   have q1:v1=cutS k:=by
    have:=f.2;rw [e3] at this;have h9:v1.data.toList=Lib.decDigits (5 ^ k):=by simpa using this
    unfold cutS;exact ByteArray.ext (by rw [<-h9])
   rw [t] at e0;rw [u] at e2;obtain ⟨_,hlen,e⟩:=World.cells?_some hl;have c0:l[0]?=some (.int .i64 v0):=by
    have:=congrArg (·[0]?) e0
    simpa using this
   have c1:l[1]?=some (.string v1):=by
    have:=congrArg (·[0]?) e2
    simpa using this
   have d0:=e 0 (by omega);have d1:=e 1 (by omega);rw [c0,q0] at d0;rw [c1,q1] at d1;exact ⟨d0,d1⟩
theorem pt_rows:∀i:Fin 9,ptL[i.val]?=some (pt i.val):=by decide +kernel
theorem pts_of {W : World} (h : laidMet Tryz.prog [("internal/strconv.powtab", .slice (ptL.map fun z => .lit (.int .i64 ((z : Nat) : Int))) [])] W) :
  ∃(b:Addr) (c:Nat),W.cell? ⟨13,0,none⟩=some (.slice (some b) 9 c)/\∀i,i<9->W.cell? (b.add i)=some (.int .i64 (pt i:Int)):=by
 obtain ⟨ps,⟨g', t', cs,fuel,p,q,f, r, g,hd,_,_⟩,_⟩:=h;obtain rfl : 13 = g' := Option.some.inj ((show Tryz.prog.globalNamed "internal/strconv.powtab" = some 13 by kernel_rfl).symm.trans f);obtain rfl:49=t' := Option.some.inj ((show (Tryz.prog.globals[13]?).map (·.type)=some 49 by kernel_rfl).symm.trans r)
 have m:Tryz.prog.cellsOf 3=1:=by kernel_rfl
 rcases DataW.trod_slice Tryz.underlying49 hd with ⟨_,h2⟩ | ⟨a,s,t,d,rest,n,rfl,h1,h2,hb,hlc,hcm,u,j,_,_⟩
 ·have:=congrArg Prod.fst h2
  cases this
 ·have e:d.map (·.1)=ptL.map fun z=>(DataW.lit (.int .i64 ((z:Nat):Int)):DataW Unit):=by
   have:=congrArg Prod.fst h2;simp only [DataW.slice.injEq] at this;exact this.1.symm
  have o:s=9:=by
   have:=congrArg List.length e;rw [List.length_map,List.length_map,u] at this;exact this
  rw [m] at j;refine ⟨a,t,?_,fun i hi=>?_⟩
  ·rw [World.var?_cell f g 0,<-Array.getElem?_toList,h1,o];rfl
  ·have h3:=j i (by omega)
   have h4:(d.map (·.1))[i]?=some (DataW.lit (.int .i64 (pt i))):=by rw [e,List.getElem?_map,pt_rows ⟨i,hi⟩];rfl
   rw [List.getElem?_map,Option.map_eq_some_iff] at h4;obtain ⟨y,hy,k⟩:=h4;rw [hy,Option.bind_eq_some_iff] at h3;obtain ⟨l,hl,ht⟩:=h3;obtain ⟨v,h5,h6,_⟩:=DataW.trod_int Tryz.underlying3 ht;have h7:v=pt i:=by rw [h6] at k;simpa using k
   rw [h5,h7,Nat.mul_one] at hl;exact cell_of_cells?_one hl
theorem info3_of {W : World} (h : laidMet Tryz.prog [("internal/strconv.float64info", .agg [.lit (.int .u64 52), .lit (.int .u64 11), .lit (.int .i64 (-1023))])] W) :
  W.cell? ⟨7,0,none⟩=some (.int .u64 52)/\W.cell? ⟨7,1,none⟩=some (.int .u64 11)/\W.cell? ⟨7,2,none⟩=some (.int .i64 (-1023)):=by
 obtain ⟨ps,⟨g', t', cs,fuel,p,q,c, f, a,hd,_,_⟩,_⟩:=h;obtain rfl : 7 = g' := Option.some.inj ((show Tryz.prog.globalNamed "internal/strconv.float64info" = some 7 by kernel_rfl).symm.trans c);obtain rfl:267=t' := Option.some.inj ((show (Tryz.prog.globals[7]?).map (·.type)=some 267 by kernel_rfl).symm.trans f)
 have d:Tryz.prog.cellsOf 83=1:=by kernel_rfl
 have e:Tryz.prog.cellsOf 3=1:=by kernel_rfl
 obtain ⟨y0,y1,y2,n,g,hyl,i,j,k⟩:=Go.Deep.trod_struct3 Tryz.underlying267 hd;have b:[y0.1,y1.1,y2.1]=[DataW.lit (.int .u64 52),.lit (.int .u64 11),.lit (.int .i64 (-1023))]:=by
  have:=congrArg Prod.fst g;simp only [DataW.agg.injEq] at this;exact this.symm
 simp only [List.cons.injEq,and_true] at b;obtain ⟨v0,e0,g0,_⟩:=DataW.trod_int Tryz.underlying83 i;obtain ⟨v1,e1,g1,_⟩:=DataW.trod_int Tryz.underlying83 j;obtain ⟨v2,e2,g2,_⟩:=DataW.trod_int Tryz.underlying3 k;have q0:v0=52:=by have:=b.1;rw [g0] at this;simpa using this
 have q1:v1=11:=by have:=b.2.1;rw [g1] at this;simpa using this
 have q2:v2=-1023:=by have:=b.2.2;rw [g2] at this;simpa using this
 rw [d] at e0 e1;rw [e] at e2;have c0:cs[0]?=some (.int .u64 v0):=by
  rw [<-Array.getElem?_toList];have:=congrArg (·[0]?) e0
  simpa using this
 have c1:cs[1]?=some (.int .u64 v1):=by
  rw [<-Array.getElem?_toList];have:=congrArg (·[0]?) e1
  simpa using this
 have c2:cs[2]?=some (.int .i64 v2):=by
  rw [<-Array.getElem?_toList];have:=congrArg (·[0]?) e2
  simpa using this
 refine ⟨?_,?_,?_⟩
 ·rw [World.var?_cell c a 0,c0,q0]
 ·rw [World.var?_cell c a 1,c1,q1]
 ·rw [World.var?_cell c a 2,c2,q2]
theorem slow_of {W:World} {laid:List (String × DataW Unit)} (h0:laidMetH Tryz.prog laid W) (hp:(laid.all fun x=>x.2.handleName?.isNone)=true)
  (e1 : laid.filter (fun x => x.1 == "internal/strconv.leftcheats") = [("internal/strconv.leftcheats", Go.Pinned.leftcheats)])
  (e2 : laid.filter (fun x => x.1 == "internal/strconv.float64info") = [("internal/strconv.float64info", .agg [.lit (.int .u64 52), .lit (.int .u64 11), .lit (.int .i64 (-1023))])])
  (e3 : laid.filter (fun x => x.1 == "internal/strconv.powtab") = [("internal/strconv.powtab", .slice (ptL.map fun z => .lit (.int .i64 ((z : Nat) : Int))) [])]) : Slow W := by
 rw [MakeChecks.laidMetH_plain _ _ _ hp] at h0;have h1 := h0.filter (fun x => x.1 == "internal/strconv.leftcheats");have h2 := h0.filter (fun x => x.1 == "internal/strconv.float64info");have h3 := h0.filter (fun x => x.1 == "internal/strconv.powtab");rw [e1] at h1;rw [e2] at h2;rw [e3] at h3;obtain ⟨a,b,c⟩:=info3_of h2;exact ⟨cheats_of h1,pts_of h3,a,b,c⟩
theorem star_err : "*" ++ "errors.errorString" = "*errors.errorString" := by decide
theorem row_err (u : TypeId) (h : Tryz.prog.typeName? 3 u = some "*errors.errorString") : u = 246 :=
 typeName_ptr_named (nm := "errors.errorString") (by rw [star_err]; kernel_rfl) (by kernel_rfl) (by decide) u (by rw [star_err]; exact h)
theorem nums_of {W:World} {laid:List (String × DataW Unit)} (h0:laidMetH Tryz.prog laid W) (hp:(laid.all fun x=>x.2.handleName?.isNone)=true)
  (e1 : laid.filter (fun x => x.1 == "internal/strconv.uint64pow10") = [("internal/strconv.uint64pow10", Lib.tabData .u64 Lib.pow10Tab)])
  (e2 : laid.filter (fun x => x.1 == "strconv.ErrSyntax") = [("strconv.ErrSyntax", .iface "*errors.errorString" (.ptr (.agg [.lit (.string [105, 110, 118, 97, 108, 105, 100, 32, 115, 121, 110, 116, 97, 120])])))])
  (e3 : laid.filter (fun x => x.1 == "strconv.ErrRange") = [("strconv.ErrRange", .iface "*errors.errorString" (.ptr (.agg [.lit (.string [118, 97, 108, 117, 101, 32, 111, 117, 116, 32, 111, 102, 32, 114, 97, 110, 103, 101])])))]) : Nums W := by
 rw [MakeChecks.laidMetH_plain _ _ _ hp] at h0;have h1 := h0.filter (fun x => x.1 == "internal/strconv.uint64pow10");have h2 := h0.filter (fun x => x.1 == "strconv.ErrSyntax");have h3 := h0.filter (fun x => x.1 == "strconv.ErrRange");rw [e1] at h1;rw [e2] at h2;rw [e3] at h3;refine ⟨Lib.tabIs_of_head (g:=5) (t:=223) (e:=60) (n:=20) (by kernel_rfl) (by kernel_rfl) Tryz.underlying223 Tryz.underlying60 (by kernel_rfl) (by kernel_rfl) h1,?_,?_⟩
 ·obtain ⟨a,s,hv,_⟩:=laid_sentinel (g:=3) (ti:=106) (tp:=246) (te:=248) h2 glob_syn (by kernel_rfl) Tryz.underlying106 row_err Tryz.underlying246 Tryz.underlying248 rfl rfl Tryz.underlying9 (by kernel_rfl) (by kernel_rfl)
  exact ⟨_,_,hv⟩
 ·obtain ⟨a,s,hv,_⟩:=laid_sentinel (g:=4) (ti:=106) (tp:=246) (te:=248) h3 glob_rng (by kernel_rfl) Tryz.underlying106 row_err Tryz.underlying246 Tryz.underlying248 rfl rfl Tryz.underlying9 (by kernel_rfl) (by kernel_rfl)
  exact ⟨_,_,hv⟩
end Go.Proofs.YtagkgfniihiinaaGreatDoor
namespace Go.Proofs.YtagkgfniihiinaaGreatDoor
open Go.RowKit
theorem Row.src {B:Nat} {w:World} {v:Value} {s:ByteArray} (h:Row B w v s) (h0:0<s.size):Src Tryz.prog 1 27 v s.size (Lib.strCells s) w:=by
 obtain ⟨ad,c,hv,hl,hc⟩:=Reads.of_owns h.own;have hp:0<(Lib.strCells s).length:=by rw [Lib.strCells_length];exact h0
 obtain ⟨b,o,ha,_⟩:=hc 0 _ (List.getElem?_eq_getElem hp);rw [hv,ha];refine Src.ofSlice _ Tryz.underlying27 ⟨b,o,none⟩ s.size c _ (by rw [Lib.strCells_length,Nat.mul_one]) (fun j u hj=>?_) (Lib.strCells_oneCell s);obtain ⟨b', o', a, d⟩:=hc j u hj;rw [ha] at a;cases a
 rw [add_zr];exact d
end Go.Proofs.YtagkgfniihiinaaGreatDoor
namespace Go.Proofs.YtagkgfniihiinaaGreatDoor
open Go.RowKit Go.Joins
def Byts (w:World) (a:Option Addr) (s:ByteArray):Prop:=s.size=0\/∃b o,a=some ⟨b,o,none⟩/\Lib.Bytes w b o s
theorem Byts.below {w w' : World} {a:Option Addr} {s:ByteArray} (h:Byts w a s) (hb:Below w.heap.size w w'):Byts w' a s:=by
 rcases h with h | ⟨b,o,h1,h2⟩
 ·exact .inl h
 ·exact .inr ⟨b,o,h1,fun i hi=>Aa hb _ _ (h2 i hi)⟩
theorem Byts.src {w:World} {a:Option Addr} {s:ByteArray} {c:Nat} (h:Byts w a s):Src Tryz.prog 1 27 (.slice a s.size c) s.size (Lib.strCells s) w:=by
 rcases h with h0 | ⟨b,o,rfl,h2⟩
 ·have e:Lib.strCells s=[]:=List.length_eq_zero_iff.1 (by rw [Lib.strCells_length];exact h0)
  rw [e,h0];cases a with
  | none=>exact Src.ofNil _ Tryz.underlying27 c
  | some ad=>exact Src.ofSlice _ Tryz.underlying27 ad 0 c [] rfl (fun j u hj=>by cases hj) (fun u hu=>by cases hu)
 ·refine Src.ofSlice _ Tryz.underlying27 ⟨b,o,none⟩ s.size c _ (by rw [Lib.strCells_length,Nat.mul_one]) (fun j u hj=>?_) (Lib.strCells_oneCell s)
  have d:j<s.size:=by
   have:=(List.getElem?_eq_some_iff.1 hj).1;rwa [Lib.strCells_length] at this
  rw [add_zr,h2 j d,<-hj,cells_at s j d]
theorem open_bytes {H:Type} {enc:TypeId × Value->H} {w:World} {fuel:Nat} {a:Option Addr} {n cap:Nat} {x:DataW H × List MemPlace} (h:DataW.trod enc Tryz.prog w 0 (fun _=>true) true fuel 27 [.slice a n cap]=some x) :
  n<=maxLen/\∃s:ByteArray,s.size=n/\Byts w a s:=by
 rcases Go.Deep.open_slice Tryz.underlying27 h with h0 | ⟨ad,len', cap', m,k,D,Pl,d,hb,hl,hm,f,hx,hi⟩
 ·obtain ⟨h0,_⟩:=h0
  simp at h0;obtain ⟨rfl,rfl,rfl⟩:=h0;exact ⟨Nat.zero_le _,⟨#[]⟩,rfl,.inl rfl⟩
 ·simp at d
  obtain ⟨rfl,rfl,rfl⟩:=d;simp at f;subst f;refine ⟨Nat.le_trans hl hm,?_⟩;have hC:Tryz.prog.cellsOf 5=1:=by kernel_rfl
  obtain ⟨xs,l,g⟩:=Gm (R:=fun i (c:UInt8)=>w.cell? (ad.add i)=some (.int .u8 (c.toNat:Int))) n (fun i him=>by
   obtain ⟨cs', hc,p⟩:=hi i (by omega);obtain ⟨z,rfl,_,hz⟩:=DataW.trod_int Tryz.underlying5 p;rw [hC] at hc;obtain ⟨_,hcl,q⟩:=World.cells?_some hc;have h0:=q 0 (by omega);have hz2:0<=z/\z<=255:=by
    have h1:(decide (IntKind.u8.min<=z) && decide (z<=IntKind.u8.max))=true:=hz;rw [Bool.and_eq_true,decide_eq_true_eq,decide_eq_true_eq] at h1;exact h1
   refine ⟨UInt8.ofNat z.toNat,?_⟩;have e:((UInt8.ofNat z.toNat).toNat:Int)=z:=by
    rw [UInt8.toNat_ofNat'];omega
   rw [e];simpa [Addr.add] using h0)
  refine ⟨⟨xs.toArray⟩,by rw [<-l];exact size_l _,?_⟩;rcases Nat.eq_zero_or_pos n with h0 | h0
  ·exact .inl (by rw [size_l];show xs.length=0;omega)
  ·obtain ⟨b,o,rfl⟩:=add_plain (g 0 (by omega))
   refine .inr ⟨b,o,rfl,fun i hi=>?_⟩;have j:i<xs.length:=by rw [size_l] at hi;exact hi
   have:=g i j;rw [add_mk] at this;rw [this];rfl
end Go.Proofs.YtagkgfniihiinaaGreatDoor
namespace Go.Proofs.YtagkgfniihiinaaGreatDoor
open Go.RowKit
theorem plain_of {s:ByteArray} {neg:Bool} {c:UInt8} {l:List UInt8} (h:s.data.toList=(if neg then [45] else [])++c :: l) (hc:isD c=true):Plain s:=by
 obtain ⟨a,b,d⟩:=num_head h hc;exact ⟨a,b,d⟩
theorem numR_zero:numR false [48] 1 0=0:=by
 unfold numR;rw [if_pos (by decide +kernel)]
theorem parO_text {n:Nat} (hn:n<18446744073709551616) {s:ByteArray} (hs:s.data.toList=Bs n):ParO s (some (Cp n)):=by
 cases hnan:nanF n with
 | true=>
  rw [Eo hnan] at hs;rw [txt_eq hs,(canon_nan n).2 hnan];exact .nan
 | false=>
  have hc:Cp n=n:=by unfold Cp;rw [hnan];rfl
  rw [Dc hnan] at hs;have b:n=sgB (decide (9223372036854775808<=n))+n % 9223372036854775808:=word_split n hn;obtain ⟨sg,hsg⟩:∃sg,sg=decide (9223372036854775808<=n):=⟨_,rfl⟩;obtain ⟨r,hr⟩:∃r,r=n % 9223372036854775808:=⟨_,rfl⟩;have f:r<=9218868437227405312:=by
   unfold nanF at hnan;have:=of_decide_eq_false hnan;omega
  rw [<-hsg,<-hr] at b hs;rw [hc,b];clear hc hnan hsg b hr;rcases Nat.eq_or_lt_of_le f with h | h
  ·subst h
   have hb:B0 9218868437227405312=[105,110,102]:=by unfold B0;rw [if_pos rfl]
   rw [hb] at hs;rw [txt_eq hs];cases sg
   ·exact .inf
   ·exact .minf
  ·rcases Nat.eq_zero_or_pos r with h0 | h0
   ·subst h0
    rw [Dx] at hs;have e:Lib.decDigits 0=[48]:=by decide +kernel
    have hf:=whole_form (s:=s) (neg:=sg) (n:=0) (by rw [hs,e]) (by decide +kernel);rw [e,show Lib.nDigits 0=1 by decide +kernel] at hf;have hz:s.size<=64:=by rw [Ai,hs];cases sg<;>simp [A7]
    have g:Bc s.data.toList=true:=by
     rw [hs];cases sg<;>decide +kernel
    have hp:Plain s:=plain_of (neg:=sg) (c:=48) (l:=[]) (by rw [hs];rfl) (by decide);have:=ParO.num hp hz g hf (by rw [numR_zero];decide);rw [numR_zero] at this;exact this
   ·obtain ⟨hz,d,L,m,x,hR⟩:=Cv h0 h hs
    obtain ⟨c,l,h1,hc⟩:=hR.head;have a:numR d L m x=r:=by
     obtain ⟨R,hI,j⟩:=Fs hR.pos hR.lt (p:=expF d L m x) (by have:=hR.low;omega) (by have:=hR.high;omega);have i:R=r:=hI.uniq (Nat.pow_pos (by decide)) hR.near;unfold numR;have hlow:=hR.low;have hhigh:=hR.high;have hpos:=hR.pos;rw [if_neg (by omega),if_neg (by omega),if_neg (by omega),if_neg (by rw [hR.whole];decide),j,i,Nat.min_eq_left (Nat.le_of_lt h)]
    have:=ParO.num (plain_of h1 hc) (by omega) hR.right hR.txt (by rw [a];omega);rw [a] at this;exact this
end Go.Proofs.YtagkgfniihiinaaGreatDoor
namespace Go.Proofs.YtagkgfniihiinaaGreatDoor
open Go.RowKit Go.Joins
theorem Byts.text {w:World} {a:Option Addr} {s:ByteArray} {c:Nat} (h:Byts w a s):(convert 27 9 (.slice a s.size c)).run Tryz.prog w=.ok (.string s) w:=by
 rcases h with h0 | ⟨b,o,rfl,h2⟩
 ·have e:s=ByteArray.empty:=ByteArray.ext (Array.eq_empty_of_size_eq_zero h0)
  rw [h0,e];exact run_convert_bytes_zero w 27 5 Tryz.underlying27 Tryz.underlying5 a c _ Tryz.underlying9
 ·have h7:=run_convert_bytes_back (P:=Tryz.prog) w 27 9 5 ⟨b,o,none⟩ c s.data.toList Tryz.underlying27 Tryz.underlying5 Tryz.underlying9 (fun q hq=>by
   rw [Array.length_toList] at hq;rw [add_zr,h2 q hq,Array.getElem_toList];rfl)
  rw [Array.length_toList] at h7;exact h7
end Go.Proofs.YtagkgfniihiinaaGreatDoor
namespace Go.Proofs.YtagkgfniihiinaaGreatDoor
open Go.RowKit
theorem bits_bits (r:Nat):A9 (A9 r)=A9 r:=by
 by_cases h:nanB r=true
 ·have e:A9 r=9221120237041090561:=by unfold A9;rw [if_pos h]
  rw [e];decide +kernel
 ·have e:A9 r=r:=by unfold A9;rw [if_neg h]
  rw [e,e]
theorem norm_norm (v:V):v.norm.norm=v.norm:=by
 induction v using V.ind with
 | h v ih=>
  obtain ⟨k,t,i,r,f,l⟩:=v;rw [norm_mk,norm_mk,bits_bits,List.map_map];congr 1;exact List.map_congr_left fun x hx=>ih x hx
theorem norm_count (v:V):v.norm.count=v.count:=by
 induction v using V.ind with
 | h v ih=>
  obtain ⟨k,t,i,r,f,l⟩:=v;rw [norm_mk];simp only [V.count];congr 1;have a:∀l:List V,(∀x∈l,x.norm.count=x.count)->V.countL (l.map V.norm)=V.countL l:=by
   intro l;induction l with
   | nil=>intro _;rfl
   | cons x l ihl=>
    intro h;rw [List.map_cons];simp only [V.countL];rw [h x (List.mem_cons_self ..),ihl fun y hy=>h y (List.mem_cons_of_mem _ hy)]
  exact a l ih
open Classical in
noncomputable def rpA:Rp:=⟨fun t=>if h:∃r,r<18446744073709551616/\Bs r=t then some (Cp h.choose) else (parO_ex ⟨t.toArray⟩).choose,fun _=>True⟩
open Classical in
theorem rpA_is (t:List UInt8):ParO ⟨t.toArray⟩ (rpA t):=by
 show ParO ⟨t.toArray⟩ (if h:∃r,r<18446744073709551616/\Bs r=t then some (Cp h.choose) else (parO_ex ⟨t.toArray⟩).choose);by_cases h:∃r,r<18446744073709551616/\Bs r=t
 ·rw [dif_pos h]
  have hc:=h.choose_spec;exact parO_text hc.1 hc.2.symm
 ·rw [dif_neg h]
  exact (parO_ex ⟨t.toArray⟩).choose_spec
open Classical in
theorem rpA_ok:RpOk rpA:=⟨fun r hr=>by
 have hex:∃r', r' < 18446744073709551616/\Bs r' = Bs r:=⟨r,hr,rfl⟩;show (if h:∃r', r' < 18446744073709551616/\Bs r' = Bs r then some (Cp h.choose) else (parO_ex ⟨(Bs r).toArray⟩).choose)=_;rw [dif_pos hex];have hc:=hex.choose_spec;rw [text_inj hc.1 hr hc.2],fun _ _=>trivial⟩
theorem rpA_all:RpAll rpA:=⟨rpA_is,fun _=>trivial⟩
end Go.Proofs.YtagkgfniihiinaaGreatDoor
namespace Go.Proofs.YtagkgfniihiinaaGreatDoor
open Go.ChangeShapes Go.WideShapes Go.ChangeAt Go.RowKit
theorem floF_of {W:World} {laid:List (String × DataW Unit)} (h0:laidMetH Tryz.prog laid W) (hp:(laid.all fun x=>x.2.handleName?.isNone)=true)
  (e1 : laid.filter (fun x => x.1 == "internal/strconv.uint64pow10") = [("internal/strconv.uint64pow10", Lib.tabData .u64 Lib.pow10Tab)])
  (e2 : laid.filter (fun x => x.1 == "internal/strconv.pow10Tab") = [("internal/strconv.pow10Tab", Go.Pinned.pow10Tab)]) : Flo W := by
 rw [MakeChecks.laidMetH_plain _ _ _ hp] at h0;have h1 := h0.filter (fun x => x.1 == "internal/strconv.uint64pow10");have h2 := h0.filter (fun x => x.1 == "internal/strconv.pow10Tab");rw [e1] at h1;rw [e2] at h2;exact ⟨pows_of h2,Lib.tabIs_of_head (g:=5) (t:=223) (e:=60) (n:=20) (by kernel_rfl) (by kernel_rfl) Tryz.underlying223 Tryz.underlying60 (by kernel_rfl) (by kernel_rfl) h1⟩
theorem star_errT : "*" ++ "errors.errorString" = "*errors.errorString" := by decide
theorem row_errT (u : TypeId) (h : Tryz.prog.typeName? 3 u = some "*errors.errorString") : u = 246 :=
 typeName_ptr_named (nm := "errors.errorString") (by rw [star_errT]; kernel_rfl) (by kernel_rfl) (by decide) u (by rw [star_errT]; exact h)
theorem glob_rngT : Tryz.prog.globalNamed "strconv.ErrRange" = some 4 := by kernel_rfl
theorem rng_of {W:World} {laid:List (String × DataW Unit)} (h0:laidMetH Tryz.prog laid W) (hp:(laid.all fun x=>x.2.handleName?.isNone)=true)
  (e3 : laid.filter (fun x => x.1 == "strconv.ErrRange") = [("strconv.ErrRange", .iface "*errors.errorString" (.ptr (.agg [.lit (.string [118, 97, 108, 117, 101, 32, 111, 117, 116, 32, 111, 102, 32, 114, 97, 110, 103, 101])])))]) : Rng W := by
 rw [MakeChecks.laidMetH_plain _ _ _ hp] at h0;have h3 := h0.filter (fun x => x.1 == "strconv.ErrRange");rw [e3] at h3;obtain ⟨a,s,hv,_⟩:=laid_sentinel (g:=4) (ti:=106) (tp:=246) (te:=248) h3 glob_rngT (by kernel_rfl) Tryz.underlying106 row_errT Tryz.underlying246 Tryz.underlying248 rfl rfl Tryz.underlying9 (by kernel_rfl) (by kernel_rfl);exact ⟨_,_,(World.var?_cell glob_rngT hv 0).trans rfl⟩
end Go.Proofs.YtagkgfniihiinaaGreatDoor
namespace Go.Proofs.YtagkgfniihiinaaGreatDoor
open Go.RowKit
theorem scan5_lnone {w:World} {s:ByteArray} {u:Nat} {t:List UInt8} (h0:0<s.size) (hs:s.size<=1000000) (hk:Ab (s[0]'h0)=5\/Ab (s[0]'h0)=12\/Ab (s[0]'h0)=13\/Ab (s[0]'h0)=14) (hl:Az (s.data.toList.drop 1)=.got (t,u)) (hm:¬(t=[45,49]/\(Ab (s[0]'h0)=4\/Ab (s[0]'h0)=5)))
  (hn:numS t 1000=none) (d m:Int):Calls Tryz.prog 47 #[.string s,.int .i64 d,.int .i64 m] w (StopZ 51 w):=by
 have p:=hl;obtain ⟨c,hc⟩:∃c,s[0]'h0=c:=⟨_,rfl⟩;rw [hc] at hk;have l:=Dg c;have h0i:(0:Int)<(s.size:Int):=by omega
 have h1i:(1:Int)<=(s.size:Int):=by omega
 obtain ⟨j1,j3,j4⟩:=Bw h0;obtain ⟨T,hT⟩:∃T,T=s.extract 1 s.size:=⟨_,rfl⟩;have y:T.size<=1000000:=by rw [hT,ByteArray.size_extract];omega
 have f:=D2 y;have z:T.data.toList=s.data.toList.drop 1:=by rw [hT];exact D1
 have aa:=(Bb hl).1;rw [List.length_drop,Array.length_toList] at aa;have ab:s.data.size=s.size:=rfl;obtain ⟨U,hU⟩:∃U,U=u+1:=⟨_,rfl⟩;have hu1:IntKind.i64.wrap ((u:Int)+1)=(U:Int):=by rw [IntWalk.i64_in _ (by omega)];omega
 try rw [<-hU]
 replace hU:=Hd hU;rw [z,hl] at f;unfold lineA at f;have hT2:=hT.symm;dsimp only at f;replace f:=Hd f;replace l:=Hd l;clear z hl y hT aa ab;rw [hc] at hm;try rw [hc] at hnn
 try rw [hc] at h14
 obtain ⟨k,hkk⟩:∃k,k=Ab c:=⟨_,rfl⟩;rw [<-hkk] at hk l;try rw [<-hkk] at hm
 try rw [<-hkk] at hp
 try rw [<-hkk] at hH
 try rw [<-hkk] at hnn
 try rw [<-hkk] at h14
 clear hkk;obtain ⟨tb,htb⟩:∃tb:ByteArray,tb=⟨t.toArray⟩:=⟨_,rfl⟩;have g:tb.data.toList=t:=by rw [htb]
 have ac:tb.size<=1000000:=by
  have h1:=(Bb p).2.2;rw [<-g,Array.length_toList] at h1;have h2:tb.data.size=tb.size:=rfl;omega
 rw [<-htb] at f;have o:((tb.toList == [45,49])=false)\/((tb.toList == [45,49])=true/\((k:Int) == 4)=false/\((k:Int) == 5)=false):=by
  cases h9:(tb.toList == [45,49]) with
  | false=>exact .inl rfl
  | true=>
   refine .inr ⟨rfl,?_⟩;have h8:=eq_of_beq h9;rw [ByteArray.toList_eq,g] at h8;have h7:¬(k=4\/k=5):=fun e=>hm ⟨h8,e⟩;exact ⟨by rw [beq_eq_false_iff_ne];omega,by rw [beq_eq_false_iff_ne];omega⟩
 clear htb;replace o:=Hd o;replace hm:=Hd hm;replace g:=Hd g;replace p:=Hd p;try replace hH:=Hd hH
 have b:=fun W=>Ff (w:=W) (t:=tb) (most:=1000) ac (by decide);rw [g.out] at b;unfold numI at b;rw [hn] at b;dsimp only at b;have j:=Bk (k:Int);have ad:Al (k:Int)=true:=by unfold Al;rw [decide_eq_true_iff];omega
 rw [ad] at j;replace j:=Hd j;replace b:=Hd b;have h2:=Two.start w 0 ⟨#[]⟩ 0 0 false;obtain ⟨W2,hW2⟩:∃W,W=(w.alloc (.cells #[.int .i64 0,.string ⟨#[]⟩,.int .i64 0,.float .f64 0,.bool false,.slice none 0 0] 26)).alloc (.cells #[.int .i64 0,.string ⟨#[]⟩,.int .i64 0,.float .f64 0,.bool false,.slice none 0 0] 26):=⟨_,rfl⟩;rw [<-hW2] at h2;replace hW2:=Hd hW2;replace h2:=Hd h2
 go_enter Tryz.func47,Tryz.ntmps47
 go_upto_region 2 with fail
 rw [<-hW2.out];clear hW2;go_wp2_with fail
 refine (l.out _).mono ?_;rintro e w3 ⟨rfl,a⟩;have h3:=h2.out;rw [<-a] at h3;clear h2 a;go_wp2_with fail
 refine (f.out _).mono ?_;rintro e w3 ⟨rfl,a⟩;rw [<-a] at h3;clear a;replace h3:=Hd h3;go_upto_region 11 with fail
 go_cut [59] from 51 to 59 (fun s5 wx=>s5=.bool false/\wx=w3)
 case first=>
  rcases o.out with y1 | ⟨y1,c4,c5⟩
  ·go_wp2_with fail
   go_meet
   exact ⟨rfl,rfl⟩
  ·go_wp2_with fail
   go_meet
   exact ⟨rfl,rfl⟩
 obtain ⟨rfl,a⟩:=hcut;obtain rfl:=a.symm;clear a;clear o;go_upto_region 13 with fail
 go_cut [72] from 64 to 72 (fun s5 wx=>s5=.bool false/\wx=w3)
 case first=>
  have c4:((k:Int) == 4)=false:=by rw [beq_eq_false_iff_ne];omega
  have c10:((k:Int) == 10)=false:=by rw [beq_eq_false_iff_ne];omega
  have c11:((k:Int) == 11)=false:=by rw [beq_eq_false_iff_ne];omega
  go_wp2_with fail
  go_meet
  exact ⟨rfl,rfl⟩
 obtain ⟨rfl,a⟩:=hcut;obtain rfl:=a.symm;clear a;go_wp2_with fail
 refine (j.out _).mono ?_;rintro e w4 ⟨rfl,a⟩;obtain rfl:=a.symm;clear a j;go_wp2_with fail
 refine (b.out _).mono ?_;rintro e w4 ⟨rfl,hb⟩;have h4:=h3.out.move hb;clear h3 hb b;obtain ⟨w3,hw3⟩:∃w3,w3=w4:=⟨_,rfl⟩;rw [<-hw3] at h4 ⊢;clear hw3;have h3:=Hd (h4);clear h4;replace hk:=Hd hk;have h3:=h3.out;have q:(w3.setCells w.heap.size 0 [.int .i64 0,.string (⟨#[]⟩:ByteArray),.int .i64 0,.float .f64 0,.bool false,.slice none 0 0]).rangeAt w.heap.size 0 [.int .i64 0,.string (⟨#[]⟩:ByteArray),.int .i64 0,.float .f64 0,.bool false,.slice none 0 0]:=
  World.rangeAt_setCells_same _ _ _ _ (Af (n:=6) h3.zero h3.blk rfl)
 have ae:=Hd (Af (n:=6) h3.zero h3.blk rfl);have af:=Hd (h3.full);have r:Below w.heap.size w (w3.setCells w.heap.size 0 [.int .i64 0,.string (⟨#[]⟩:ByteArray),.int .i64 0,.float .f64 0,.bool false,.slice none 0 0]):=
  h3.below.trans ((Fr.setCells (S:=fun k=>k=w.heap.size) (fun _=>rfl) _ _ _ (Fr.refl _ w3)).below h3.below.size (fun i hi h=>by omega))
 replace q:=Hd q;replace r:=Hd r;replace h3:=Hd h3
 go_wp2_with (first
  | (refine wpList_load_mid rfl 26 _ rfl (w.heap.size+1) 0 rfl _ _ af.out Tryz.underlying26 rfl Ad ?_)
  | (refine wpList_store_mid rfl 26 _ _ rfl w.heap.size 0 _ rfl rfl ae.out Ad (one6 _ _ _ _ _ _ _ _) ?_))
 refine bodyPost_ret (As (v:=.agg #[.int .i64 0,.string (⟨#[]⟩:ByteArray),.int .i64 0,.float .f64 0,.bool false,.slice none 0 0]) rfl rfl (run_loadVar_mid (P:=Tryz.prog) _ _ 0 26 _ _ q.out Tryz.underlying26 rfl Ad)) rfl ?_;exact ⟨0,0,rfl,r.out⟩
theorem scan5_lbad {w:World} {s:ByteArray} {u nn:Nat} {t:List UInt8} (h0:0<s.size) (hs:s.size<=1000000) (hk:Ab (s[0]'h0)=5\/Ab (s[0]'h0)=12\/Ab (s[0]'h0)=13\/Ab (s[0]'h0)=14) (hl:Az (s.data.toList.drop 1)=.got (t,u)) (hm:¬(t=[45,49]/\(Ab (s[0]'h0)=4\/Ab (s[0]'h0)=5)))
  {n many d:Nat} (hn:numS t 1000=some n) (hnn:nn=if Ab (s[0]'h0)=12 then 2 * n else n) (hmn:many<=1000) (hd:d<=8) (h14:1000<many+nn\/8<=d\/(Ab (s[0]'h0)=14/\(nn=0\/0<d))) :
  Calls Tryz.prog 47 #[.string s,.int .i64 (d:Int),.int .i64 (many:Int)] w (StopZ 51 w):=by
 have hn4:=numS_leG hn;have hn2:nn<=2000:=by rw [hnn];split<;>omega
 have q:=hl;obtain ⟨c,hc⟩:∃c,s[0]'h0=c:=⟨_,rfl⟩;rw [hc] at hk;have m:=Dg c;have h0i:(0:Int)<(s.size:Int):=by omega
 have h1i:(1:Int)<=(s.size:Int):=by omega
 obtain ⟨j1,j3,j4⟩:=Bw h0;obtain ⟨T,hT⟩:∃T,T=s.extract 1 s.size:=⟨_,rfl⟩;have ab:T.size<=1000000:=by rw [hT,ByteArray.size_extract];omega
 have g:=D2 ab;have ac:T.data.toList=s.data.toList.drop 1:=by rw [hT];exact D1
 have ad:=(Bb hl).1;rw [List.length_drop,Array.length_toList] at ad;have ae:s.data.size=s.size:=rfl;obtain ⟨U,hU⟩:∃U,U=u+1:=⟨_,rfl⟩;have hu1:IntKind.i64.wrap ((u:Int)+1)=(U:Int):=by rw [IntWalk.i64_in _ (by omega)];omega
 try rw [<-hU]
 replace hU:=Hd hU;rw [ac,hl] at g;unfold lineA at g;have hT2:=hT.symm;dsimp only at g;replace g:=Hd g;replace m:=Hd m;clear ac hl ab hT ad ae;rw [hc] at hm;try rw [hc] at hnn
 try rw [hc] at h14
 obtain ⟨k,hkk⟩:∃k,k=Ab c:=⟨_,rfl⟩;rw [<-hkk] at hk m;try rw [<-hkk] at hm
 try rw [<-hkk] at hp
 try rw [<-hkk] at hH
 try rw [<-hkk] at hnn
 try rw [<-hkk] at h14
 clear hkk;obtain ⟨tb,htb⟩:∃tb:ByteArray,tb=⟨t.toArray⟩:=⟨_,rfl⟩;have j:tb.data.toList=t:=by rw [htb]
 have ag:tb.size<=1000000:=by
  have h1:=(Bb q).2.2;rw [<-j,Array.length_toList] at h1;have h2:tb.data.size=tb.size:=rfl;omega
 rw [<-htb] at g;have o:((tb.toList == [45,49])=false)\/((tb.toList == [45,49])=true/\((k:Int) == 4)=false/\((k:Int) == 5)=false):=by
  cases h9:(tb.toList == [45,49]) with
  | false=>exact .inl rfl
  | true=>
   refine .inr ⟨rfl,?_⟩;have h8:=eq_of_beq h9;rw [ByteArray.toList_eq,j] at h8;have h7:¬(k=4\/k=5):=fun e=>hm ⟨h8,e⟩;exact ⟨by rw [beq_eq_false_iff_ne];omega,by rw [beq_eq_false_iff_ne];omega⟩
 clear htb;replace o:=Hd o;replace hm:=Hd hm;replace j:=Hd j;replace q:=Hd q;try replace hH:=Hd hH
 have f:=fun W=>Ff (w:=W) (t:=tb) (most:=1000) ag (by decide);rw [j.out] at f;unfold numI at f;rw [hn] at f;dsimp only at f;have l:=Bk (k:Int);have ah:Al (k:Int)=true:=by unfold Al;rw [decide_eq_true_iff];omega
 rw [ah] at l;replace l:=Hd l;replace f:=Hd f;have h2:=Two.start w 0 ⟨#[]⟩ 0 0 false;obtain ⟨W2,hW2⟩:∃W,W=(w.alloc (.cells #[.int .i64 0,.string ⟨#[]⟩,.int .i64 0,.float .f64 0,.bool false,.slice none 0 0] 26)).alloc (.cells #[.int .i64 0,.string ⟨#[]⟩,.int .i64 0,.float .f64 0,.bool false,.slice none 0 0] 26):=⟨_,rfl⟩;rw [<-hW2] at h2;replace hW2:=Hd hW2;replace h2:=Hd h2
 go_enter Tryz.func47,Tryz.ntmps47
 go_upto_region 2 with fail
 rw [<-hW2.out];clear hW2;go_wp2_with fail
 refine (m.out _).mono ?_;rintro e w3 ⟨rfl,a⟩;have h3:=h2.out;rw [<-a] at h3;clear h2 a;go_wp2_with fail
 refine (g.out _).mono ?_;rintro e w3 ⟨rfl,a⟩;rw [<-a] at h3;clear a;replace h3:=Hd h3;go_upto_region 11 with fail
 go_cut [59] from 51 to 59 (fun s5 wx=>s5=.bool false/\wx=w3)
 case first=>
  rcases o.out with y1 | ⟨y1,c4,c5⟩
  ·go_wp2_with fail
   go_meet
   exact ⟨rfl,rfl⟩
  ·go_wp2_with fail
   go_meet
   exact ⟨rfl,rfl⟩
 obtain ⟨rfl,a⟩:=hcut;obtain rfl:=a.symm;clear a;clear o;go_upto_region 13 with fail
 go_cut [72] from 64 to 72 (fun s5 wx=>s5=.bool false/\wx=w3)
 case first=>
  have c4:((k:Int) == 4)=false:=by rw [beq_eq_false_iff_ne];omega
  have c10:((k:Int) == 10)=false:=by rw [beq_eq_false_iff_ne];omega
  have c11:((k:Int) == 11)=false:=by rw [beq_eq_false_iff_ne];omega
  go_wp2_with fail
  go_meet
  exact ⟨rfl,rfl⟩
 obtain ⟨rfl,a⟩:=hcut;obtain rfl:=a.symm;clear a;go_wp2_with fail
 refine (l.out _).mono ?_;rintro e w4 ⟨rfl,a⟩;obtain rfl:=a.symm;clear a l;go_wp2_with fail
 refine (f.out _).mono ?_;rintro e w4 ⟨rfl,hb⟩;have h4:=h3.out.move hb;clear h3 hb f;obtain ⟨w3,r⟩:∃w3,w3=w4:=⟨_,rfl⟩;rw [<-r] at h4 ⊢;clear r;have h3:=Hd (h4);clear h4;have hn0:¬(n:Int)<0:=by omega
 replace hnn:=Hd hnn;obtain ⟨p12,hp12⟩:∃p:Bool,p=decide (k=12):=⟨_,rfl⟩;replace hp12:=Hd hp12;go_upto_region 30 with fail
 go_cut [147] from 147 to 147 (fun s5 wx=>s5=.bool p12/\wx=w3)
 case first=>
  rcases hk with rfl | rfl | rfl | rfl
  ·obtain rfl:p12=false:=hp12.out
   go_wp2_with fail
   go_meet
   exact ⟨rfl,rfl⟩
  ·obtain rfl:p12=true:=hp12.out
   go_wp2_with fail
   go_meet
   exact ⟨rfl,rfl⟩
  ·obtain rfl:p12=false:=hp12.out
   go_wp2_with fail
   go_meet
   exact ⟨rfl,rfl⟩
  ·obtain rfl:p12=false:=hp12.out
   go_wp2_with fail
   go_meet
   exact ⟨rfl,rfl⟩
 obtain ⟨rfl,a⟩:=hcut;obtain rfl:=a.symm;clear a
 go_upto_if 147 with fail
 go_cut [20] from 20 to 149 (fun s5 wx=>s5=.int .i64 (nn:Int)/\wx=w3)
 case first=>
  cases p12 with
  | false=>
   have h1:¬k=12:=of_decide_eq_false hp12.out.symm;have b:=hnn.out;rw [if_neg h1] at b;subst b;go_wp2_with fail
   go_meet
   exact ⟨rfl,rfl⟩
  | true=>
   have h1:k=12:=of_decide_eq_true hp12.out.symm;have b:=hnn.out;rw [if_pos h1] at b;have af:IntKind.i64.wrap (2 * (n:Int))=(nn:Int):=by rw [IntWalk.i64_in _ (by omega)];omega
   replace b:=Hd b;go_wp2_with fail
   go_meet
   exact ⟨by first | rfl | (rw [af]) | (simp [af]),rfl⟩
 obtain ⟨rfl,a⟩:=hcut;obtain rfl:=a.symm;clear a;replace hk:=Hd hk;obtain ⟨M,hM⟩:∃M,M=many+nn:=⟨_,rfl⟩;have r:IntKind.i64.wrap ((many:Int)+(nn:Int))=(M:Int):=by rw [IntWalk.i64_in _ (by omega)];omega
 replace hM:=Hd hM;go_upto_region 32 with fail
 go_upto_region 33 with fail
 go_cut [170] from 154 to 170 (fun s5 wx=>s5=.bool true/\wx=w3)
 case first=>
  by_cases q1:1000<M
  ·have ai:(1000:Int)<(M:Int):=by omega
   by_cases q2:8<=d
   ·have y:(8:Int)<=(d:Int):=by omega
    go_wp2_with fail
    go_meet
    exact ⟨rfl,rfl⟩
   ·have y:¬(8:Int)<=(d:Int):=by omega
    go_wp2_with fail
    go_meet
    exact ⟨rfl,rfl⟩
  ·have ai:¬(1000:Int)<(M:Int):=by omega
   by_cases q2:8<=d
   ·have y:(8:Int)<=(d:Int):=by omega
    go_wp2_with fail
    go_meet
    exact ⟨rfl,rfl⟩
   ·have y:¬(8:Int)<=(d:Int):=by omega
    obtain ⟨h5,h6⟩:k=14/\(nn=0\/0<d):=by have hMM:=hM.out;omega
    subst h5;by_cases q3:nn=0
    ·have z1:((nn:Int) == 0)=true:=by rw [q3];rfl
     replace q3:=Hd q3;go_wp2_with fail
     go_meet
     exact ⟨rfl,rfl⟩
    ·have z1:((nn:Int) == 0)=false:=by rw [beq_eq_false_iff_ne];omega
     have z2:(0:Int)<(d:Int):=by omega
     have z3:0<d:=by omega
     go_wp2_with fail
     go_meet
     exact ⟨rfl,rfl⟩
 obtain ⟨rfl,a⟩:=hcut;obtain rfl:=a.symm;clear a;have h3:=h3.out;have z:(w3.setCells w.heap.size 0 [.int .i64 0,.string (⟨#[]⟩:ByteArray),.int .i64 0,.float .f64 0,.bool false,.slice none 0 0]).rangeAt w.heap.size 0 [.int .i64 0,.string (⟨#[]⟩:ByteArray),.int .i64 0,.float .f64 0,.bool false,.slice none 0 0]:=
  World.rangeAt_setCells_same _ _ _ _ (Af (n:=6) h3.zero h3.blk rfl)
 have aj:=Hd (Af (n:=6) h3.zero h3.blk rfl);have ak:=Hd (h3.full);have aa:Below w.heap.size w (w3.setCells w.heap.size 0 [.int .i64 0,.string (⟨#[]⟩:ByteArray),.int .i64 0,.float .f64 0,.bool false,.slice none 0 0]):=
  h3.below.trans ((Fr.setCells (S:=fun k=>k=w.heap.size) (fun _=>rfl) _ _ _ (Fr.refl _ w3)).below h3.below.size (fun i hi h=>by omega))
 replace z:=Hd z;replace aa:=Hd aa;replace h3:=Hd h3
 go_wp2_with (first
  | (refine wpList_load_mid rfl 26 _ rfl (w.heap.size+1) 0 rfl _ _ ak.out Tryz.underlying26 rfl Ad ?_)
  | (refine wpList_store_mid rfl 26 _ _ rfl w.heap.size 0 _ rfl rfl aj.out Ad (one6 _ _ _ _ _ _ _ _) ?_))
 refine bodyPost_ret (As (v:=.agg #[.int .i64 0,.string (⟨#[]⟩:ByteArray),.int .i64 0,.float .f64 0,.bool false,.slice none 0 0]) rfl rfl (run_loadVar_mid (P:=Tryz.prog) _ _ 0 26 _ _ z.out Tryz.underlying26 rfl Ad)) rfl ?_;exact ⟨0,0,rfl,aa.out⟩
theorem cons_of {s:ByteArray} (h0:0<s.size):s.data.toList=(s[0]'h0) :: s.data.toList.drop 1:=by
 obtain ⟨hj,e⟩:=get_list h0;rw [<-e,<-List.drop_eq_getElem_cons hj,List.drop_zero]
theorem headQ_scQ {rp:Rp} (hrp:RpAll rp) {s:ByteArray} {H:Head} {many:Nat} {w:World} {e:Ending} {w' : World} (hh:H=A0 rp s.data.toList) (h:HeadQ H (many:Int) w e w') :
  ScQ (match H with | .stop q=>.stop q | .leaf v u=>.got (v,u,many) | .list _ _ _=>.stop 51) w e w' := by
 cases H with
 | stop q=>exact h
 | leaf v u=>
  obtain ⟨h1,h2⟩:=h;have hg:=head_leafG (rp:=rp) (fun t r h=>hrp.lt t r h) hh.symm;obtain ⟨k,t,i,r,f,l⟩:=v;have hl:l=[]:=hg.list;subst hl;exact ⟨none,0,h1,RV.leaf _ _ _ _ _ _ _ _,h2⟩
 | list _ _ _=>exact h.elim
theorem p02_any {rp:Rp} (hrp:RpAll rp) {t:List UInt8} {w:World} (hY:Lay w):Calls Tryz.prog 92 #[.string ⟨t.toArray⟩] w fun e w' => e=ParE (rp t)/\Below w.heap.size w w' := ref_all (hrp.is t) hY
theorem scan5_step {rp:Rp} (hrp:RpAll rp) {s:ByteArray} {many d:Nat} {w:World} {X:Nat->Nat->Nat->Out (V × Nat × Nat)} (hs:s.size<=1000000) (hY:Lay w)
   (hX:∀(h0:0<s.size) (t:List UInt8) (u n:Nat),(Ab (s[0]'h0)=5\/Ab (s[0]'h0)=12\/Ab (s[0]'h0)=13\/Ab (s[0]'h0)=14)->Az (s.data.toList.drop 1)=.got (t,u)->¬(t=[45,49]/\(Ab (s[0]'h0)=4\/Ab (s[0]'h0)=5))->numS t 1000=some n ->
     Calls Tryz.prog 47 #[.string s,.int .i64 (d:Int),.int .i64 (many:Int)] w (ScQ (X (Ab (s[0]'h0)) (if Ab (s[0]'h0)=12 then 2 * n else n) (1+u)) w)) :
   Calls Tryz.prog 47 #[.string s,.int .i64 (d:Int),.int .i64 (many:Int)] w (ScQ (match A0 rp s.data.toList with | .stop q=>.stop q | .leaf v u=>.got (v,u,many) | .list kd n u=>X kd n u) w):=by
 have a:∀H,H=A0 rp s.data.toList->(∀kd n u,H≠.list kd n u)->Calls Tryz.prog 47 #[.string s,.int .i64 (d:Int),.int .i64 (many:Int)] w (HeadQ H (many:Int) w) ->
     Calls Tryz.prog 47 #[.string s,.int .i64 (d:Int),.int .i64 (many:Int)] w (ScQ (match A0 rp s.data.toList with | .stop q=>.stop q | .leaf v u=>.got (v,u,many) | .list kd n u=>X kd n u) w):=fun H hH hno h=>by
   refine h.mono fun e w' he=>?_
   have:=headQ_scQ hrp hH he
   rw [<-hH]
   cases H with
   | stop q=>exact this
   | leaf v u=>exact this
   | list kd n u=>exact absurd rfl (hno kd n u)
 rcases Nat.eq_zero_or_pos s.size with hz | h0
 · have l:s=⟨#[]⟩:=ByteArray.ext (Array.eq_empty_of_size_eq_zero hz)
   subst l;exact a (.stop 0) rfl (fun _ _ _ h=>by cases h) (scan5_nil _ _)
 have m:=cons_of h0;obtain ⟨c,hc⟩:∃c,c=s[0]'h0:=⟨_,rfl⟩;obtain ⟨L,hL⟩:∃L,L=s.data.toList.drop 1:=⟨_,rfl⟩;have f:=m;rw [<-hc,<-hL] at f;have b:∀H,A0 rp (c :: L)=H->H=A0 rp s.data.toList:=fun H h=>by rw [f];exact h.symm
 by_cases hk0:Ab c=0
 · refine a (.stop 51) (b _ ?_) (fun _ _ _ h=>by cases h) (scan5_kind h0 (by rw [<-hc];exact hk0) _ _)
   unfold A0;dsimp only;rw [if_pos hk0]
 cases hl:Az L with
 | stop e=>
   refine a (.stop e) (b _ ?_) (fun _ _ _ h=>by cases h) (scan5_line h0 hs (by rw [<-hc];exact hk0) (by rw [<-hL];exact hl) _ _);unfold A0;dsimp only;rw [if_neg hk0,hl]
 | got p=>
   obtain ⟨t,u⟩:=p;have g:Az (s.data.toList.drop 1)=.got (t,u):=by rw [<-hL];exact hl
   by_cases hm:t=[45,49]/\(Ab c=4\/Ab c=5)
   · obtain ⟨ht,hk⟩:=hm
     subst ht;have:=scan5_null (w:=w) h0 hs (by rw [<-hc];exact hk) g (d:Int) (many:Int);refine a (.leaf (Ar 6 ⟨#[]⟩ 0 0 false) (u+1)) (b _ ?_) (fun _ _ _ h=>by cases h) this;unfold A0;dsimp only;rw [if_neg hk0,hl];dsimp only;rw [if_pos ⟨rfl,hk⟩,Nat.add_comm]
   have j:¬(t=[45,49]/\(Ab (s[0]'h0)=4\/Ab (s[0]'h0)=5)):=by rw [<-hc];exact hm
   by_cases hk:Ab c=4\/Ab c=10\/Ab c=11
   · obtain ⟨H,hH⟩:∃H,H=A0 rp (c :: L):=⟨_,rfl⟩
     have k:=hH;unfold A0 at hH;dsimp only at hH;rw [if_neg hk0,hl] at hH;dsimp only at hH;rw [if_neg hm,if_pos hk] at hH;have:=scan5_text (w:=w) h0 hs (by rw [<-hc];exact hk) g j (H:=H) (by rw [<-hL,<-hc];exact hH) (d:Int) (many:Int);refine a H (b _ k.symm) (fun kd n u e=>?_) this;rw [e] at hH;split at hH
     · cases hH
     · split at hH
       · cases hH
       · split at hH<;>cases hH
   by_cases hk2:Ab c=5\/Ab c=12\/Ab c=13\/Ab c=14
   · have i:Ab (s[0]'h0)=5\/Ab (s[0]'h0)=12\/Ab (s[0]'h0)=13\/Ab (s[0]'h0)=14:=by rw [<-hc];exact hk2
     cases hn:numS t 1000 with
     | none=>
       refine a (.stop 51) (b _ ?_) (fun _ _ _ h=>by cases h) (scan5_lnone h0 hs i g j hn _ _);unfold A0;dsimp only;rw [if_neg hk0,hl];dsimp only;rw [if_neg hm,if_neg hk];by_cases hk3:Ab c=5\/Ab c=13\/Ab c=14
       · rw [if_pos hk3,hn]
       · rw [if_neg hk3,if_pos (by omega),hn]
     | some n=>
       have hh:A0 rp (c :: L)=.list (Ab c) (if Ab c=12 then 2 * n else n) (1+u):=by
         unfold A0;dsimp only;rw [if_neg hk0,hl];dsimp only;rw [if_neg hm,if_neg hk];by_cases hk3:Ab c=5\/Ab c=13\/Ab c=14
         · rw [if_pos hk3,hn,if_neg (by omega)]
         · rw [if_neg hk3,if_pos (by omega),hn,if_pos (by omega)]
           dsimp only;rw [show Ab c=12 by omega]
       have:=hX h0 t u n i g j hn;rw [f,hh];rw [<-hc] at this;exact this
   · have hkl:=kindR_leG c
     obtain ⟨H,hH⟩:∃H,H=A0 rp (c :: L):=⟨_,rfl⟩;have k:=hH;unfold A0 at hH;dsimp only at hH;rw [if_neg hk0,hl] at hH;dsimp only at hH;rw [if_neg hm,if_neg hk,if_neg (by omega),if_neg (by omega)] at hH;have:=scan5_single (w:=w) (o:=rp t) h0 hs (by rw [<-hc];omega) g (fun _ W hW=>p02_any hrp (hY.below hW)) (H:=H) (by rw [<-hc];exact hH) (d:Int) (many:Int);refine a H (b _ k.symm) (fun kd n u e=>?_) this;rw [e] at hH;split at hH
     · cases hH
     · split at hH<;>cases hH
theorem scan5_any {rp:Rp} (hrp:RpAll rp):∀(lv:Nat),lv<=8->∀(s:ByteArray) (many:Nat) (w:World),s.size<=1000000->many<=1000->Lay w ->
   Calls Tryz.prog 47 #[.string s,.int .i64 ((8 - lv:Nat):Int),.int .i64 (many:Int)] w (ScQ (At rp lv many s.data.toList) w):=by
 intro lv;induction lv with
 | zero=>
   intro _ s many w hs hm hY;have:=scan5_step hrp (s:=s) (many:=many) (d:=8) (w:=w) (X:=fun _ _ _=>.stop 51) hs hY (fun h0 t u n hk hl hm2 hn=>scan5_lbad h0 hs hk hl hm2 hn rfl hm (Nat.le_refl _) (.inr (.inl (Nat.le_refl _))));unfold At;exact this
 | succ lv ih=>
   intro hlv s many w hs hm hY
   have:=scan5_step hrp (s:=s) (many:=many) (d:=8 - (lv+1)) (w:=w) (X:=fun kd n u=>if 1000<many+n\/(kd=14/\(n=0\/lv<7)) then .stop 51 else match Bg (At rp lv) n (many+n) (s.data.toList.drop u) with
       | .stop e=>.stop e
       | .got (l,u2,m2)=>.got (.mk kd ⟨#[]⟩ 0 0 false l,u+u2,m2)) hs hY (fun h0 t u n hk hl hm2 hn=>by
     obtain ⟨nn,hnn⟩:∃nn,nn=if Ab (s[0]'h0)=12 then 2 * n else n:=⟨_,rfl⟩
     rw [<-hnn]
     by_cases hb:1000<many+nn\/(Ab (s[0]'h0)=14/\(nn=0\/lv<7))
     · rw [if_pos hb]
       exact scan5_lbad h0 hs hk hl hm2 hn hnn hm (by omega) (by omega)
     · rw [if_neg hb]
       refine R2.scan5_list (rp:=rp) h0 hs hk hl hm2 hn hnn (by omega) (by omega) (by omega) (f:=At rp lv) (fun W s' m' hW hs' hm' => ?_) (fun m L v u m' h=>?_) ?_
       · have:=ih (by omega) s' m' W hs' hm' (hY.below hW)
         rw [show ((8 - (lv+1):Nat):Int)+1=((8 - lv:Nat):Int) by omega];exact this
       · have hg:=scan_good (rp:=rp) (fun t r h=>hrp.lt t r h) lv (by omega) m L v u m' h
         exact ⟨hg.len,hg.most⟩
       · rw [List.drop_drop]
         cases Bg (At rp lv) nn (many+nn) (s.data.toList.drop (1+u)) with
         | stop e=>rfl
         | got p=>rfl)
   unfold At;exact this
theorem results_cell3 {fn:Func} {p u u2:Tmp} {ty:TypeId} {tmps:Array Value} {P:Program} {w:World} {ad:Addr} {v:Value} (h:fn.results=#[.cell p ty,.tmp u,.tmp u2]) (hp:tmps.getD p undef=.pointer (some ad)) (hl:(loadVar ty ad).run P w=.ok v w) :
  (results fn tmps).run P w=.ok (.tuple #[v,tmps.getD u undef,tmps.getD u2 undef]) w:=by
 simp only [results,h];simp [Sem.run_bind,Result.andThen,asAddr,hl,show tmps[p]?.getD undef=.pointer (some ad) by simpa using hp]
theorem parse5_any {rp:Rp} (hrp:RpAll rp) {s:ByteArray} {w:World} (hs:s.size<=1000000) (hY:Lay w):Calls Tryz.prog 29 #[.string s] w (Fl (At rp 8 1 s.data.toList) w):=by
 obtain ⟨W3,hW3⟩:∃W,W=w.alloc (.cells #[.int .i64 0,.string ⟨#[]⟩,.int .i64 0,.float .f64 0,.bool false,.slice none 0 0] 26):=⟨_,rfl⟩;have p:Below w.heap.size w W3:=by rw [hW3];exact (Below.refl _ _).alloc (Nat.le_refl _) _
 have af:W3.rangeAt w.heap.size 0 [.int .i64 0,.string ⟨#[]⟩,.int .i64 0,.float .f64 0,.bool false,.slice none 0 0]:=by
  rw [hW3];intro j y hj;rw [Nat.zero_add,World.cell?_alloc_new];simpa using hj
 have ac:Blk W3 w.heap.size:=by rw [hW3];exact Blk.new _ _ _
 have b:=scan5_any hrp 8 (Nat.le_refl _) s 1 W3 hs (by decide) (hY.below p);replace p:=Hd p;replace af:=Hd af;replace ac:=Hd ac;replace hW3:=Hd hW3;cases ho:At rp 8 1 s.data.toList with
 | stop q=>
  rw [ho] at b;have hq:=(scan_ext (rp:=rp) (fun t r h=>hrp.lt t r h) 8 (Nat.le_refl _) 1 s.data.toList []).2.2 q ho;replace b:Calls Tryz.prog 47 #[.string s,.int .i64 0,.int .i64 1] W3 (StopZ q W3):=b;clear ho;replace b:=Hd b;rcases hq with rfl | rfl
  all_goals
   go_enter Tryz.func29,Tryz.ntmps29
   go_upto_region 1 with fail
   rw [<-hW3.out]
   go_wp2_with fail
   refine b.out.mono ?_
   rintro e w4 ⟨X,Y,rfl,ae⟩
   clear b
   have ad:=Hd (A4 w4 26)
   have z:=Hd (B5 w4 26 [.int .i64 0,.string (⟨#[]⟩:ByteArray),.int .i64 0,.float .f64 0,.bool false,.slice none 0 0] rfl)
   have o:True:=trivial
   go_upto_region 2 with (have _t:=o;refine wpList_store_mid rfl 26 _ _ rfl w4.heap.size 0 _ rfl rfl ad.out Ad (one6 _ _ _ _ _ _ _ _) ?_;clear o _t)
   generalize (w4.alloc (.cells #[Value.int .i64 0,.string ⟨#[]⟩,.int .i64 0,.float .f64 0,.bool false,.slice none 0 0] 26)).setCells w4.heap.size 0 [Value.int .i64 0,.string (⟨#[]⟩:ByteArray),.int .i64 0,.float .f64 0,.bool false,.slice none 0 0]=W6 at z ⊢
   obtain ⟨ab,l,_⟩:=z.out
   obtain ⟨G,hG⟩:∃G,G=w4.heap.size:=⟨_,rfl⟩
   rw [<-hG] at l ⊢
   replace hG:=Hd hG
   clear z ad
   have c:=ae.trans (ab.mono ae.size)
   have f:=Af (n:=6) (Aj c af.out) (ac.out.of_block (c.block _ ac.out.lt)) rfl
   have d:Fr (fun k=>k=w.heap.size) W6 (W6.setCells w.heap.size 0 [.int .i64 0,.string (⟨#[]⟩:ByteArray),.int .i64 0,.float .f64 0,.bool false,.slice none 0 0]):=Fr.setCells (S:=fun k=>k=w.heap.size) (fun _=>rfl) _ _ _ (Fr.refl _ W6)
   have g:=p.out.trans (c.mono p.out.size)
   have ah:=Hd (g.trans (d.below g.size (fun i hi e=>by omega)))
   have aa:(W6.setCells w.heap.size 0 [.int .i64 0,.string (⟨#[]⟩:ByteArray),.int .i64 0,.float .f64 0,.bool false,.slice none 0 0]).rangeAt w.heap.size 0 [.int .i64 0,.string (⟨#[]⟩:ByteArray),.int .i64 0,.float .f64 0,.bool false,.slice none 0 0]:=
    World.rangeAt_setCells_same _ _ _ _ f
   have ag:=Hd (ab)
   replace aa:=Hd aa
   replace f:=Hd f
   replace l:=Hd l
   replace d:=Hd d
   replace g:=Hd g
   clear ab c
   go_wp2_with (first
    | (refine wpList_load_mid rfl 26 _ rfl G 0 rfl _ _ l.out Tryz.underlying26 rfl Ad ?_)
    | (refine wpList_store_mid rfl 26 _ _ rfl w.heap.size 0 _ rfl rfl f.out Ad (one6 _ _ _ _ _ _ _ _) ?_))
   refine bodyPost_ret (results_cell3 (v:=.agg #[.int .i64 0,.string (⟨#[]⟩:ByteArray),.int .i64 0,.float .f64 0,.bool false,.slice none 0 0]) rfl rfl (run_loadVar_mid (P:=Tryz.prog) _ _ 0 26 _ _ aa.out Tryz.underlying26 rfl Ad)) rfl ?_
   exact ⟨rfl,ah.out⟩
 | got r=>
  obtain ⟨v,u,m⟩:=r;rw [ho] at b
  replace b:Calls Tryz.prog 47 #[.string s,.int .i64 0,.int .i64 1] W3 (fun e w' => ∃(a:Option Addr) (ca:Nat),e=.returned (.tuple #[.agg #[.int .i64 v.kind,.string v.text,.int .i64 v.int,.float .f64 v.real,.bool v.flag,.slice a v.list.length ca],.int .i64 (u:Int),.int .i64 (m:Int),.int .i64 0]) /\
   RV (Bh W3.heap.size w') (Ao v.kind v.text v.int v.real v.flag a v.list.length ca) v/\Below W3.heap.size W3 w'):=b
  clear ho;have ai:w.heap.size+1=W3.heap.size:=by rw [hW3.out];simp
  replace b:=Hd b;replace ai:=Hd ai
  go_enter Tryz.func29,Tryz.ntmps29
  go_upto_region 1 with fail
  rw [<-hW3.out];go_wp2_with fail
  refine b.out.mono ?_;rintro e w4 ⟨ax,cx,rfl,aj,ae⟩;clear b;replace aj:=Hd aj;have ad:=Hd (A4 w4 26);have z:=Hd (B5 w4 26 [.int .i64 v.kind,.string v.text,.int .i64 v.int,.float .f64 v.real,.bool v.flag,.slice ax v.list.length cx] rfl);have o:True:=trivial;go_upto_region 2 with (have _t:=o;refine wpList_store_mid rfl 26 _ _ rfl w4.heap.size 0 _ rfl rfl ad.out Ad (one6 _ _ _ _ _ _ _ _) ?_;clear o _t)
  generalize (w4.alloc (.cells #[Value.int .i64 0,.string ⟨#[]⟩,.int .i64 0,.float .f64 0,.bool false,.slice none 0 0] 26)).setCells w4.heap.size 0 [Value.int .i64 v.kind,.string v.text,.int .i64 v.int,.float .f64 v.real,.bool v.flag,.slice ax v.list.length cx]=W6 at z ⊢;obtain ⟨ab,l,_⟩:=z.out;obtain ⟨G,hG⟩:∃G,G=w4.heap.size:=⟨_,rfl⟩;rw [<-hG] at l ⊢;replace hG:=Hd hG;clear z ad;have c:=ae.trans (ab.mono ae.size);have f:=Af (n:=6) (Aj c af.out) (ac.out.of_block (c.block _ ac.out.lt)) rfl;have d:Fr (fun k=>k=w.heap.size) W6 (W6.setCells w.heap.size 0 [.int .i64 v.kind,.string v.text,.int .i64 v.int,.float .f64 v.real,.bool v.flag,.slice ax v.list.length cx]):=Fr.setCells (S:=fun k=>k=w.heap.size) (fun _=>rfl) _ _ _ (Fr.refl _ W6);have g:=p.out.trans (c.mono p.out.size);have ah:=Hd (g.trans (d.below g.size (fun i hi e=>by omega)))
  have aa:(W6.setCells w.heap.size 0 [.int .i64 v.kind,.string v.text,.int .i64 v.int,.float .f64 v.real,.bool v.flag,.slice ax v.list.length cx]).rangeAt w.heap.size 0 [.int .i64 v.kind,.string v.text,.int .i64 v.int,.float .f64 v.real,.bool v.flag,.slice ax v.list.length cx]:=
   World.rangeAt_setCells_same _ _ _ _ f
  have ag:=Hd (ab);replace aa:=Hd aa;replace f:=Hd f;replace l:=Hd l;replace d:=Hd d;replace g:=Hd g;clear ab c
  go_wp2_with (first
   | (refine wpList_load_mid rfl 26 _ rfl G 0 rfl _ _ l.out Tryz.underlying26 rfl Ad ?_)
   | (refine wpList_store_mid rfl 26 _ _ rfl w.heap.size 0 _ rfl rfl f.out Ad (one6 _ _ _ _ _ _ _ _) ?_))
  refine bodyPost_ret (results_cell3 (v:=.agg #[.int .i64 v.kind,.string v.text,.int .i64 v.int,.float .f64 v.real,.bool v.flag,.slice ax v.list.length cx]) rfl rfl (run_loadVar_mid (P:=Tryz.prog) _ _ 0 26 _ _ aa.out Tryz.underlying26 rfl Ad)) rfl ?_;exact ⟨ax,cx,rfl,(aj.out.mono (Gk ag.out)).mono (Gl d.out (by have:=ai.out;omega)),ah.out⟩
end Go.Proofs.YtagkgfniihiinaaGreatDoor
namespace Go.Proofs.YtagkgfniihiinaaGreatDoor
open Go.RowKit Go.Joins
theorem same_zeroS (w:World):Calls Tryz.prog 19 #[.agg #[.int .i64 0,.string ⟨#[]⟩,.int .i64 0,.float .f64 0,.bool false,.slice none 0 0],.agg #[.int .i64 0,.string ⟨#[]⟩,.int .i64 0,.float .f64 0,.bool false,.slice none 0 0]] w fun e w' => e=.returned (.bool true)/\Below w.heap.size w w' := by
 refine (same03_any (.mk 0 ⟨#[]⟩ 0 0 false []) (.mk 0 ⟨#[]⟩ 0 0 false []) none 0 0 none 0 0 w (RV.leaf _ _ _ _ _ _ _ _) (RV.leaf _ _ _ _ _ _ _ _) (by decide)).mono ?_;rintro e w' ⟨q,rfl,hq,hb⟩;obtain rfl:q=true:=hq.2 rfl;exact ⟨rfl,hb⟩
theorem next_stopped {rp:Rp} (hrp:RpAll rp) {B r q:Nat} {w:World} {v:Value} {s bad:ByteArray} (h:Rdr B w r v s q) (hq:(q=0/\s=bad)\/(q=51/\v=.slice none 0 0/\s=⟨#[]⟩)) (hbad:At rp 8 1 bad.data.toList=.stop 51) (hz:bad.size<=1000000) (hN:Nums w) (hY:Lay w) :
  Calls Tryz.prog 27 #[.pointer (some ⟨r,0,none⟩)] w fun e w' => e=.returned (.tuple #[.agg #[.int .i64 0,.string ⟨#[]⟩,.int .i64 0,.float .f64 0,.bool false,.slice none 0 0],.bool false,.int .i64 51])/\Rdr B w' r (.slice none 0 0) ⟨#[]⟩ 51/\Fr (fun k=>k=r) w w' := by
 rcases hq with ⟨rfl,rfl⟩ | ⟨rfl,rfl,rfl⟩
 ·exact next_stopq h (by decide) (by omega) (hrp.env hN hY) (hrp.need 8 1 _) hbad
 ·refine (R2.next_err h (by decide)).mono fun e w' ⟨h1,h2⟩=>⟨h1,h.below h2,(Fr.of_below h2).mono fun i hi hle=>absurd hi (Nat.not_lt_of_le hle)⟩
theorem stopsL_any (u:V) (ad:Option Addr) (cap:Nat) (ab:Option Addr) (sb:ByteArray) (cb:Nat) (am:Option Addr) (sm:ByteArray) (cm:Nat) (w:World) (hu:RV w.cell? (Ao u.kind u.text u.int u.real u.flag ad u.list.length cap) u) (su:u.sized) (ru:u.ranged) (hb:Byts w ab sb) (hm:Byts w am sm) (hN:Nums w) (hF:Flo w) (hY:Lay w) :
  Calls Tryz.prog 14 #[.agg #[.int .i64 u.kind,.string u.text,.int .i64 u.int,.float .f64 u.real,.bool u.flag,.slice ad u.list.length cap],.slice ab sb.size cb,.slice am sm.size cm] w
   fun e w' => e=.returned (.bool true)/\Below w.heap.size w w' := by
 obtain ⟨nb,hnb⟩:∃n,n=sb.size:=⟨_,rfl⟩;obtain ⟨nm,hnm⟩:∃n,n=sm.size:=⟨_,rfl⟩;rw [<-hnb,<-hnm];obtain ⟨W2,hW2⟩:∃W2,W2=w.alloc (.cells #[.int .i64 u.kind,.string u.text,.int .i64 u.int,.float .f64 u.real,.bool u.flag,.slice ad u.list.length cap] 26):=⟨_,rfl⟩;have d:Below w.heap.size w W2:=by rw [hW2];exact (Below.refl _ _).alloc (Nat.le_refl _) _
 obtain ⟨bu,ebu⟩:∃bu,bu=w.heap.size:=⟨_,rfl⟩;have a:W2.rangeAt bu 0 [.int .i64 u.kind,.string u.text,.int .i64 u.int,.float .f64 u.real,.bool u.flag,.slice ad u.list.length cap]:=by
  rw [hW2,ebu];intro q x hq;rw [Nat.zero_add,World.cell?_alloc_new];simpa using hq
 replace hu:=hu.mono (Aa d);replace hb:=hb.below d;replace hm:=hm.below d;have hL:LaidV W2.heap.size W2:=((LaidV.of hN hF).below d (Nat.le_refl _)).mono d.size;have a9:Nums W2:=hN.below d;have ba:Lay W2:=hY.below d;have bj:=alive05_any (w:=W2) a9;have p:=d;have bb:=fun (W:World) (hW:Below W2.heap.size W2 W)=>(hb.below hW).text (c:=cb);have bk:=fun (W:World) (hW:Below W2.heap.size W2 W) (hz:sb.size<=1000000)=>parse5_any rpA_all (s:=sb) (w:=W) hz (ba.below hW);rw [<-hnb] at bb;replace p:=Hd p;replace hnb:=Hd hnb;replace hnm:=Hd hnm;replace hb:=Hd hb;replace hm:=Hd hm;replace hu:=Hd hu;replace a:=Hd a;replace hL:=Hd hL;replace a9:=Hd a9;replace ba:=Hd ba;replace d:=Hd d;replace hW2:=Hd hW2;replace bj:=Hd bj;replace ru:=Hd ru;replace su:=Hd su;replace bb:=Hd bb;replace bk:=Hd bk;clear hN hF hY
 go_enter Tryz.func14,Tryz.ntmps14
 go_wp2_with fail
 rw [<-hW2.out,<-ebu];replace ebu:=Hd ebu;refine bj.out.mono ?_;rintro e w1 ⟨rfl,aj⟩;clear bj;have cc:_:=Aj aj a.out 0 (.int .i64 u.kind) rfl;have cd:_:=Aj aj a.out 1 (.string u.text) rfl;have ce:_:=Aj aj a.out 2 (.int .i64 u.int) rfl;have cf:_:=Aj aj a.out 3 (.float .f64 u.real) rfl;have cg:_:=Aj aj a.out 4 (.bool u.flag) rfl;have ch:_:=Aj aj a.out 5 (.slice ad u.list.length cap) rfl;rw [Nat.zero_add] at cc cd ce cf cg ch;have ci:=Hd (hu.out.mono (Aa aj));go_wp2_with fail
 refine (small_any ci.out).mono ?_;rintro e w2 ⟨b1,rfl,k1,ae⟩;replace ae:=aj.trans (ae.mono aj.size);clear cc cd ce cf cg ch;clear ci;cases b1 with
 | false=>
  clear p;have p:=ae;replace p:=Hd ae;go_wp2_with fail
  go_ret;exact ⟨rfl,d.out.trans (p.out.mono d.out.size)⟩
 | true=>
 have cu:=(k1 rfl).1;clear k1 aj;have cj:_:=Aj ae a.out 0 (.int .i64 u.kind) rfl;have ck:_:=Aj ae a.out 1 (.string u.text) rfl;have cl:_:=Aj ae a.out 2 (.int .i64 u.int) rfl;have cn:_:=Aj ae a.out 3 (.float .f64 u.real) rfl;have co:_:=Aj ae a.out 4 (.bool u.flag) rfl;have cp:_:=Aj ae a.out 5 (.slice ad u.list.length cap) rfl;rw [Nat.zero_add] at cj ck cl cn co cp;have cq:=Hd (hu.out.mono (Aa ae));go_wp2_with fail
 refine (rright_any u ad cap w2 cq.out su.out (by omega)).mono ?_;rintro e w3 ⟨rfl,y⟩;replace y:=ae.trans (y.mono ae.size);clear cj ck cl cn co cp;clear cq ae;obtain ⟨r1,hr1⟩:∃r1,r1=Ez u:=⟨_,rfl⟩;rw [<-hr1];cases r1 with
 | false=>
  replace p:=Hd y;go_wp2_with fail
  go_ret;exact ⟨rfl,d.out.trans (p.out.mono d.out.size)⟩
 | true=>
 have fu:=checkZ_fine hr1.symm;clear hr1 cu;by_cases h1:500<nb
 ·have dc:(500:Int)<(nb:Int):=by omega
  replace p:=Hd y;go_wp2_with fail
  go_ret;exact ⟨rfl,d.out.trans (p.out.mono d.out.size)⟩
 have dc:¬(500:Int)<(nb:Int):=by omega
 by_cases h2:500<nm
 ·have dd:(500:Int)<(nm:Int):=by omega
  replace p:=Hd y;go_wp2_with fail
  go_ret;exact ⟨rfl,d.out.trans (p.out.mono d.out.size)⟩
 have dd:¬(500:Int)<(nm:Int):=by omega
 have hzb:sb.size<=500:=by have:=hnb.out;omega
 have cr:=bb.out w3 y;have l:=bk.out w3 y (by omega);clear bb bk;replace y:=Hd y;cases hob:At rpA 8 1 sb.data.toList with
 | got r=>
  obtain ⟨v,q,m⟩:=r;rw [hob] at l;clear hob;replace l:=Hd l;go_wp2_with fail
  refine l.out.mono ?_;rintro e w4 ⟨a4,c4,rfl,_,a7⟩;have aa:=y.out.trans (a7.mono y.out.size);have ac:=Hd (A4 w4 26);have j:=Hd (B5 w4 26 [.int .i64 v.kind,.string v.text,.int .i64 v.int,.float .f64 v.real,.bool v.flag,.slice a4 v.list.length c4] rfl);have f:True:=trivial;go_upto_region 6 with (have _t:=f;refine wpList_store_mid rfl 26 _ _ rfl w4.heap.size 0 _ rfl rfl ac.out Ad (one6 _ _ _ _ _ _ _ _) ?_;clear f _t)
  generalize (w4.alloc (.cells #[Value.int .i64 0,.string ⟨#[]⟩,.int .i64 0,.float .f64 0,.bool false,.slice none 0 0] 26)).setCells w4.heap.size 0 [Value.int .i64 v.kind,.string v.text,.int .i64 v.int,.float .f64 v.real,.bool v.flag,.slice a4 v.list.length c4]=w5 at j ⊢;obtain ⟨ak,o,_⟩:=j.out;obtain ⟨G5,hGG5⟩:∃G,G=w4.heap.size:=⟨_,rfl⟩;rw [<-hGG5] at o ⊢;replace hGG5:=Hd hGG5;clear j ac;have af:=aa.trans (ak.mono aa.size);clear o;replace p:=Hd af;go_wp2_with fail
  go_ret;exact ⟨rfl,d.out.trans (p.out.mono d.out.size)⟩
 | stop q=>
 have hq:=(scan_ext (rp:=rpA) (fun t r h=>rpA_all.lt t r h) 8 (Nat.le_refl _) 1 sb.data.toList []).2.2 q hob;rw [hob] at l;rcases hq with rfl | rfl
 ·clear hob
  replace l:=Hd l;go_wp2_with fail
  refine l.out.mono ?_;rintro e w4 ⟨rfl,a7⟩;have aa:=y.out.trans (a7.mono y.out.size);have ac:=Hd (A4 w4 26);have j:=Hd (B5 w4 26 [.int .i64 0,.string (⟨#[]⟩:ByteArray),.int .i64 0,.float .f64 0,.bool false,.slice none 0 0] rfl);have f:True:=trivial;go_upto_region 6 with (have _t:=f;refine wpList_store_mid rfl 26 _ _ rfl w4.heap.size 0 _ rfl rfl ac.out Ad (one6 _ _ _ _ _ _ _ _) ?_;clear f _t)
  generalize (w4.alloc (.cells #[Value.int .i64 0,.string ⟨#[]⟩,.int .i64 0,.float .f64 0,.bool false,.slice none 0 0] 26)).setCells w4.heap.size 0 [Value.int .i64 0,.string (⟨#[]⟩:ByteArray),.int .i64 0,.float .f64 0,.bool false,.slice none 0 0]=w5 at j ⊢;obtain ⟨ak,o,_⟩:=j.out;obtain ⟨G5,hGG5⟩:∃G,G=w4.heap.size:=⟨_,rfl⟩;rw [<-hGG5] at o ⊢;replace hGG5:=Hd hGG5;clear j ac;have af:=aa.trans (ak.mono aa.size);clear o;replace p:=Hd af;go_wp2_with fail
  go_ret;exact ⟨rfl,d.out.trans (p.out.mono d.out.size)⟩
 replace l:=Hd l;replace hob:=Hd hob;go_wp2_with fail
 refine l.out.mono ?_;rintro e w4 ⟨rfl,a7⟩;have aa:=y.out.trans (a7.mono y.out.size);clear l cr;have ac:=Hd (A4 w4 26);have j:=Hd (B5 w4 26 [.int .i64 0,.string (⟨#[]⟩:ByteArray),.int .i64 0,.float .f64 0,.bool false,.slice none 0 0] rfl);have f:True:=trivial;go_upto_region 6 with (have _t:=f;refine wpList_store_mid rfl 26 _ _ rfl w4.heap.size 0 _ rfl rfl ac.out Ad (one6 _ _ _ _ _ _ _ _) ?_;clear f _t)
 generalize (w4.alloc (.cells #[Value.int .i64 0,.string ⟨#[]⟩,.int .i64 0,.float .f64 0,.bool false,.slice none 0 0] 26)).setCells w4.heap.size 0 [Value.int .i64 0,.string (⟨#[]⟩:ByteArray),.int .i64 0,.float .f64 0,.bool false,.slice none 0 0]=w5 at j ⊢;obtain ⟨ak,o,_⟩:=j.out;obtain ⟨G5,hGG5⟩:∃G,G=w4.heap.size:=⟨_,rfl⟩;rw [<-hGG5] at o ⊢;replace hGG5:=Hd hGG5;clear j ac;have af:=aa.trans (ak.mono aa.size);clear o a7 ak aa y;go_wp2_with fail
 obtain ⟨w6,hw6⟩:∃W,W=w5.alloc (.cells #[.slice none 0 0,.int .i64 0] 74):=⟨_,rfl⟩;have bt:Below w5.heap.size w5 w6:=by rw [hw6];exact (Below.refl _ _).alloc (Nat.le_refl _) _
 have a6:=rdr_new w5;rw [<-hw6] at a6;obtain ⟨r,hr0⟩:∃r,r=w5.heap.size:=⟨_,rfl⟩;rw [<-hr0] at a6;have hwr:W2.heap.size<=r:=by rw [hr0];exact af.size
 have g:=af.trans (bt.mono af.size);refine (rnew_any w5).mono ?_;rintro e w' ⟨rfl,ao⟩;rw [<-hw6] at ao;obtain rfl:=ao.symm;clear ao bt af;rw [<-hr0];replace hw6:=Hd hw6;replace hr0:=Hd hr0;obtain ⟨X,hX⟩:∃X:ByteArray,X=⟨u.wire.toArray⟩:=⟨_,rfl⟩;have bl:X.data.toList=u.wire:=by rw [hX]
 have bm:X.size=u.wire.length:=by rw [size_l,bl]
 have cs:=wire_len u 8 fu.1 ru.out (by have:=fu.2;omega);have ct:0<X.size:=by omega
 have hXm:X.size<=5000000:=by have:=fu.2;omega
 have huc:=fu.2;have bn:=fu.1;have bc:=bytes3_any u ad cap 8 w6 (hu.out.mono (Aa g)) bn ru.out (by omega) ((hL.out.below g (Nat.le_refl _)).mono g.size);rw [<-hX] at bc;clear fu;have cv:_:=Aj g a.out 0 (.int .i64 u.kind) rfl;have cw:_:=Aj g a.out 1 (.string u.text) rfl;have cx:_:=Aj g a.out 2 (.int .i64 u.int) rfl;have cy:_:=Aj g a.out 3 (.float .f64 u.real) rfl;have cz:_:=Aj g a.out 4 (.bool u.flag) rfl;have c1:_:=Aj g a.out 5 (.slice ad u.list.length cap) rfl;rw [Nat.zero_add] at cv cw cx cy cz c1;replace bc:=Hd bc;replace a6:=Hd a6;replace g:=Hd g;replace hX:=Hd hX;replace bl:=Hd bl;replace bm:=Hd bm;replace cs:=Hd cs;replace bn:=Hd bn;go_wp2_with fail
 refine bc.out.mono ?_;rintro e w7 ⟨b7,rfl,c7,b6⟩;clear cv cw cx cy cz c1;clear bc;have bv:=c7.src ct;have bw:=a6.out.below b6;have aq:=g.out.trans (b6.mono g.out.size);have ah:=feed_ok bw bv (by show (0:Nat)+_<=_;omega);rw [nil_left] at ah;replace ah:=Hd ah;replace aq:=Hd aq;clear a6 g c7 b6 bv bw;go_wp2_with fail
 refine ah.out.mono ?_;rintro e w8 ⟨v8,rfl,c8,c9⟩;have al:=aq.out.trans (c9.below aq.out.size (fun i hi e=>by omega));have aw:=(hb.out.below al).src (c:=cb);rw [<-hnb.out] at aw;have az:=Hd (feed_ok c8 (t:=sb) (by rw [<-hnb.out];exact aw) (by omega));clear ah aq c9 c8 aw;replace al:=Hd al;go_wp2_with fail
 refine az.out.mono ?_;rintro e w9 ⟨v9,rfl,b8,da⟩;have ai:=al.out.trans (da.below al.out.size (fun i hi e=>by omega));obtain ⟨XB,hXB⟩:∃XB,XB=X++sb:=⟨_,rfl⟩;have bd:XB.data.toList=u.wire++sb.data.toList:=by rw [hXB,ByteArray.data_append,Array.toList_append,bl.out]
 have c2:XB.size=X.size+sb.size:=by rw [hXB,ByteArray.size_append]
 obtain ⟨s1,s2⟩:=scan_wire rpA_ok u 8 1 sb.data.toList bn.out ru.out (fun _=>Nat.le_refl _) (by omega);rw [<-bd,<-bm.out] at s1;rw [<-hXB] at b8;have an:=next_got b8 (u:=X.size) (by omega) ct (by omega) (rpA_all.env (a9.out.below ai) (ba.out.below ai)) (rpA_all.need 8 1 _) s1;have be:XB.extract X.size XB.size=sb:=by
  apply ByteArray.ext;apply Array.toList_inj.1;rw [drop_list,bd,bm.out,List.drop_left]
 rw [be] at an;obtain ⟨z,hz⟩:∃z,z=u.norm:=⟨_,rfl⟩;rw [<-hz] at an;have b5:z.norm=u.norm:=by rw [hz];exact norm_norm u
 have de:z.count<=100000000:=by rw [hz,norm_count];omega
 clear az al da b8 hXB bd c2 s1 s2 be;replace an:=Hd an;replace ai:=Hd ai;replace hz:=Hd hz;replace b5:=Hd b5;go_wp2_with fail
 refine an.out.mono ?_;rintro e a8 ⟨bq,br,rfl,ap,⟨di,a2⟩,b4⟩;have ax:=Hd (ai.out.trans (b4.below ai.out.size (fun i hi e=>by omega)));clear an ai b4;replace ap:=Hd ap;replace a2:=Hd a2;have ac:=Hd (A4 a8 26);have j:=Hd (B5 a8 26 [.int .i64 z.kind,.string z.text,.int .i64 z.int,.float .f64 z.real,.bool z.flag,.slice bq z.list.length br] rfl);have f:True:=trivial;go_upto_region 12 with (have _t:=f;refine wpList_store_mid rfl 26 _ _ rfl a8.heap.size 0 _ rfl rfl ac.out Ad (one6 _ _ _ _ _ _ _ _) ?_;clear f _t)
 generalize (a8.alloc (.cells #[Value.int .i64 0,.string ⟨#[]⟩,.int .i64 0,.float .f64 0,.bool false,.slice none 0 0] 26)).setCells a8.heap.size 0 [Value.int .i64 z.kind,.string z.text,.int .i64 z.int,.float .f64 z.real,.bool z.flag,.slice bq z.list.length br]=w11 at j ⊢;obtain ⟨a3,ag,_⟩:=j.out;obtain ⟨G11,hGG11⟩:∃G,G=a8.heap.size:=⟨_,rfl⟩;rw [<-hGG11] at ag ⊢;replace hGG11:=Hd hGG11;clear j ac;have b:=ax.out.trans (a3.mono ax.out.size);have a0:=a2.out.below a3;have bf:=hu.out.mono (Aa b)
 have bo:∀W,Below w11.heap.size w11 W->Calls Tryz.prog 19 #[.agg #[.int .i64 z.kind,.string z.text,.int .i64 z.int,.float .f64 z.real,.bool z.flag,.slice bq z.list.length br],.agg #[.int .i64 u.kind,.string u.text,.int .i64 u.int,.float .f64 u.real,.bool u.flag,.slice ad u.list.length cap]] W fun e w' => e=.returned (.bool true)/\Below W.heap.size W w' := fun W hW=>
  (same03_any z u bq z.list.length br ad u.list.length cap W (((ap.out.mono newer_all).mono (Aa a3)).mono (Aa hW)) (bf.mono (Aa hW)) de).mono fun e w' ⟨q,he,hq,hb⟩=>⟨by rw [he,hq.2 b5.out],hb⟩
 have bg:_:=Aj b a.out 0 (.int .i64 u.kind) rfl;have bx:_:=Aj b a.out 1 (.string u.text) rfl;have bz:_:=Aj b a.out 2 (.int .i64 u.int) rfl;have b0:_:=Aj b a.out 3 (.float .f64 u.real) rfl;have b2:_:=Aj b a.out 4 (.bool u.flag) rfl;have b3:_:=Aj b a.out 5 (.slice ad u.list.length cap) rfl;rw [Nat.zero_add] at bg bx bz b0 b2 b3;have r0:=ag 0 _ rfl;have r1:=ag 1 _ rfl;have r2:=ag 2 _ rfl;have r3:=ag 3 _ rfl;have r4:=ag 4 _ rfl;have r5:=ag 5 _ rfl;rw [Nat.zero_add] at r0 r1 r2 r3 r4 r5;have df:bu<w11.heap.size:=World.block_lt_of_cell? _ _ bg;have dg:G11<w11.heap.size:=World.block_lt_of_cell? _ _ r0;replace bo:=Hd bo;replace b:=Hd b;replace a0:=Hd a0;clear ag a3 ap a2 ax bf;go_upto_region 12 with fail
 refine Gf ?_;repeat (go_big_quiet_step ((go_at_call 19;(with_reducible refine Bl (bo.out _ ?_));exact Ah _ _)))
 refine wpQuiet_nil ?_;rintro _ ⟨xq,rfl⟩;have hS:=Ah w11 xq;obtain ⟨w12,hw12⟩:∃W,W=grow w11 xq:=⟨_,rfl⟩;rw [<-hw12] at hS ⊢;replace hw12:=Hd hw12;have ay:=Hd (b.out.trans (hS.mono b.out.size));have bh:=Hd (a0.out.below hS);clear bg bx bz b0 b2 b3;clear r0 r1 r2 r3 r4 r5 hS bo b a0 df dg;go_wp2_with fail
 go_loopw [14] (fun kv wr=>∃(k q:Nat) (vb:Value) (bs:ByteArray),kv=.int .i64 (k:Int)/\k<=3/\Rdr (r+1) wr r vb bs q/\((q=0/\bs=sb)\/(q=51/\vb=.slice none 0 0/\bs=⟨#[]⟩))/\Below W2.heap.size W2 wr) (fun kv _=>3 - (intOf kv).toNat)
 case atStart=>exact ⟨0,0,di,sb,rfl,by decide,bh.out,.inl ⟨rfl,rfl⟩,ay.out⟩
 case round=>
  obtain ⟨k,q,vb,bs,rfl,hk3,b9,hq,av⟩:=hrel;by_cases hlt:k<3
  ·have c3:(k:Int)<3:=by omega
   have hwk:IntKind.i64.wrap ((k:Int)+1)=((k+1:Nat):Int):=by rw [IntWalk.i64_in _ (by omega)];rfl
   have an:=Hd (next_stopped rpA_all b9 hq hob.out (by omega) (a9.out.below av) (ba.out.below av));clear b9 hq bh ay;replace av:=Hd av;go_wp2_with fail
   refine an.out.mono ?_;rintro e w4 ⟨rfl,a5,db⟩;have bi:=Hd (av.out.trans (db.below av.out.size (fun i hi e=>by omega)));clear an db av;replace a5:=Hd a5;have ac:=Hd (A4 w4 26);have j:=Hd (B5 w4 26 [.int .i64 0,.string (⟨#[]⟩:ByteArray),.int .i64 0,.float .f64 0,.bool false,.slice none 0 0] rfl);have f:True:=trivial;go_upto_region 18 with (have _t:=f;refine wpList_store_mid rfl 26 _ _ rfl w4.heap.size 0 _ rfl rfl ac.out Ad (one6 _ _ _ _ _ _ _ _) ?_;clear f _t)
   generalize (w4.alloc (.cells #[Value.int .i64 0,.string ⟨#[]⟩,.int .i64 0,.float .f64 0,.bool false,.slice none 0 0] 26)).setCells w4.heap.size 0 [Value.int .i64 0,.string (⟨#[]⟩:ByteArray),.int .i64 0,.float .f64 0,.bool false,.slice none 0 0]=w5 at j ⊢;obtain ⟨ak,o,_⟩:=j.out;obtain ⟨G5,hGG5⟩:∃G,G=w4.heap.size:=⟨_,rfl⟩;rw [<-hGG5] at o ⊢;replace hGG5:=Hd hGG5;clear j ac;have ar:=a5.out.below ak;have au:=bi.out.trans (ak.mono bi.out.size);have bp:=left_any ar.c0;have r0:=o 0 _ rfl;have r1:=o 1 _ rfl;have r2:=o 2 _ rfl;have r3:=o 3 _ rfl;have r4:=o 4 _ rfl;have r5:=o 5 _ rfl;rw [Nat.zero_add] at r0 r1 r2 r3 r4 r5;clear o ak a5 bi;replace bp:=Hd bp;replace ar:=Hd ar;replace au:=Hd au;go_wp2_with fail
   refine bp.out.mono ?_;rintro e w' ⟨rfl,ao⟩;obtain rfl:=ao.symm;clear ao bp;go_wp2_with fail
   refine (same_zeroS _).mono ?_;rintro e w6 ⟨rfl,ca⟩;have a1:=ar.out.below ca;have c5:=Hd (au.out.trans (ca.mono au.out.size));have c6:=Hd (feed_err (x:=.slice am nm cm) a1 (by decide));clear r0 r1 r2 r3 r4 r5 ar au ca;replace a1:=Hd a1;go_wp2_with fail
   refine c6.out.mono ?_;rintro e w' ⟨rfl,ao⟩;obtain rfl:=ao.symm;clear ao c6;go_wp2_with fail
   go_roundw
   case rel=>exact ⟨k+1,51,_,_,by first | rfl | go_num,by omega,a1.out,.inr ⟨rfl,rfl,rfl⟩,c5.out⟩
   case measure=>simp [intOf];omega
  ·have c3:¬(k:Int)<3:=by omega
   clear b9 hq bh ay;have dh:=Hd (d.out.trans (av.mono d.out.size));go_wp2_with fail
   go_ret;exact ⟨rfl,dh.out⟩
