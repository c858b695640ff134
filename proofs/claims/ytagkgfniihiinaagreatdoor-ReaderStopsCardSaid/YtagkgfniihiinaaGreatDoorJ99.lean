/- real.Parse where the text is a number's and is read without. -/
import Derived.Test.YtagkgfniihiinaaGreatDoorRight2
import Derived.Test.YtagkgfniihiinaaGreatDoorJ104
import Derived.Test.YtagkgfniihiinaaGreatDoorJ102
set_option linter.all false
set_option maxHeartbeats 6400000
set_option maxRecDepth 100000
namespace Go.Proofs.YtagkgfniihiinaaGreatDoor
open Go.RowKit
theorem num_head {s:ByteArray} {neg:Bool} {c:UInt8} {l:List UInt8} (h:s.data.toList=(if neg then [45] else [])++c :: l) (hc:isD c=true) :
  (s.toList == [105,110,102])=false/\(s.toList == [45,105,110,102])=false/\(s.toList == [110,97,110])=false:=by
 have a:∀x:UInt8,isD x=false->c≠x:=fun x hx e=>by rw [e,hx] at hc;cases hc
 have h1:=a 105 (by decide);have h2:=a 110 (by decide);rw [ByteArray.toList_eq,h];cases neg
 ·refine ⟨?_,?_,?_⟩<;>simp [h1,h2]<;>(intro e;exact absurd e (by have:=a 45 (by decide);simpa using this))
 ·refine ⟨?_,?_,?_⟩<;>simp [h1,h2]
theorem Par.below {w w' : World} (h:Par w) (hb:Below w.heap.size w w'):Par w' := by
 obtain ⟨h1,h2,b,c,h3,h4⟩:=h;exact ⟨Aa hb _ _ h1,Aa hb _ _ h2,b,c,Aa hb _ _ h3,fun i z hz=>by
  have h5:=h4 i z hz;exact (hb.cell (World.block_lt_of_cell? _ _ h5)).trans h5⟩
end Go.Proofs.YtagkgfniihiinaaGreatDoor
namespace Go.Proofs.YtagkgfniihiinaaGreatDoor
open Go.ChangeShapes Go.WideShapes Go.ChangeAt Go.RowKit
theorem opt_of {W : World} (h : laidMet Tryz.prog [("internal/strconv.optimize", .lit (.bool true))] W) : W.cell? ⟨2, 0, none⟩ = some (.bool true) := by
 obtain ⟨ps,⟨g', t', cs,fuel,p,q,a, d, c,hd,_,_⟩,_⟩:=h;obtain rfl : 2 = g' := Option.some.inj ((show Tryz.prog.globalNamed "internal/strconv.optimize" = some 2 by kernel_rfl).symm.trans a);obtain rfl:4=t' := Option.some.inj ((show (Tryz.prog.globals[2]?).map (·.type)=some 4 by kernel_rfl).symm.trans d)
 obtain ⟨b,h1,h2⟩:=DataW.trod_bool Tryz.underlying4 hd;have h3:b=true:=by
  have:=congrArg Prod.fst h2;simp only [DataW.lit.injEq,Lit.bool.injEq] at this;exact this.symm
 rw [World.var?_cell a c 0,<-Array.getElem?_toList,h1,h3];rfl
theorem info_of {W : World} (h : laidMet Tryz.prog [("internal/strconv.float64info", .agg [.lit (.int .u64 52), .lit (.int .u64 11), .lit (.int .i64 (-1023))])] W) : W.cell? ⟨7, 0, none⟩ = some (.int .u64 52) := by
 obtain ⟨ps,⟨g', t', cs,fuel,p,q,e, j, f,hd,_,_⟩,_⟩:=h;obtain rfl : 7 = g' := Option.some.inj ((show Tryz.prog.globalNamed "internal/strconv.float64info" = some 7 by kernel_rfl).symm.trans e);obtain rfl:267=t' := Option.some.inj ((show (Tryz.prog.globals[7]?).map (·.type)=some 267 by kernel_rfl).symm.trans j)
 obtain ⟨ys,n,rfl,k,hyl,l,m⟩:=DataW.trod_struct Tryz.underlying267 hd;have g:Tryz.prog.cellsOf 83=1:=by kernel_rfl
 have d:ys.map (·.1)=[DataW.lit (.int .u64 52),.lit (.int .u64 11),.lit (.int .i64 (-1023))]:=by
  have:=congrArg Prod.fst k;simp only [DataW.agg.injEq] at this;exact this.symm
 obtain ⟨y0,y1,y2,rfl⟩:∃y0 y1 y2,ys=[y0,y1,y2]:=by
  match ys,l with
  | [a,b,c],_=>exact ⟨a,b,c,rfl⟩
 simp only [List.map_cons,List.map_nil,List.cons.injEq,and_true] at d;have i:DataW.trod (fun _=>()) Tryz.prog W 0 (fun _=>true) false n 83 ((cs.toList.drop 0).take 1)=some y0:=by
  have:=m 0 _ rfl;rw [show (#[(_:Field),_,_])[0].type=83 from rfl,g] at this;exact this
 obtain ⟨v,h1,h2,_⟩:=DataW.trod_int Tryz.underlying83 i;have h3:v=52:=by
  have:=d.1;rw [h2] at this;simpa using this
 rw [World.var?_cell e f 0,<-Array.getElem?_toList];have h4:=congrArg (·[0]?) h1
 simp only [List.getElem?_take,List.getElem?_drop] at h4;rw [if_pos (by omega)] at h4;rw [h3] at h4;simpa using h4
theorem tens_of {W : World} (h : laidMet Tryz.prog [("internal/strconv.float64pow10", .slice (f10L.map fun z => .lit (.float .f64 z)) [])] W) :
  ∃(b:Addr) (c:Nat),W.cell? ⟨14,0,none⟩=some (.slice (some b) 23 c)/\∀i z,f10L[i]?=some z->W.cell? (b.add i)=some (.float .f64 z):=by
 obtain ⟨ps,⟨g', t', cs,fuel,p,q,g, r, j,hd,_,_⟩,_⟩:=h;obtain rfl : 14 = g' := Option.some.inj ((show Tryz.prog.globalNamed "internal/strconv.float64pow10" = some 14 by kernel_rfl).symm.trans g);obtain rfl:305=t' := Option.some.inj ((show (Tryz.prog.globals[14]?).map (·.type)=some 305 by kernel_rfl).symm.trans r)
 have o:Tryz.prog.cellsOf 23=1:=by kernel_rfl
 rcases DataW.trod_slice Tryz.underlying305 hd with ⟨_,h2⟩ | ⟨a,s,t,d,rest,n,rfl,h1,h2,hb,hlc,hcm,u,k,_,_⟩
 ·have:=congrArg Prod.fst h2
  cases this
 ·have e:d.map (·.1)=f10L.map fun z=>(DataW.lit (.float .f64 z):DataW Unit):=by
   have:=congrArg Prod.fst h2;simp only [DataW.slice.injEq] at this;exact this.1.symm
  have f:s=23:=by
   have:=congrArg List.length e;rw [List.length_map,List.length_map,u] at this;exact this
  rw [o] at k;refine ⟨a,t,?_,fun i z hz=>?_⟩
  ·rw [World.var?_cell g j 0,<-Array.getElem?_toList,h1,f];rfl
  ·have hi:i<23:=(List.getElem?_eq_some_iff.1 hz).1
   have h3:=k i (by omega);have h4:(d.map (·.1))[i]?=some (DataW.lit (.float .f64 z)):=by rw [e,List.getElem?_map,hz];rfl
   rw [List.getElem?_map,Option.map_eq_some_iff] at h4;obtain ⟨y,hy,m⟩:=h4;rw [hy,Option.bind_eq_some_iff] at h3;obtain ⟨l,hl,ht⟩:=h3;obtain ⟨v,h5,h6⟩:=trod_float Tryz.underlying23 ht;have h7:v=z:=by rw [h6] at m;simpa using m
   rw [h5,h7,Nat.mul_one] at hl;exact cell_of_cells?_one hl
theorem par_of {W:World} {laid:List (String × DataW Unit)} (h0:laidMetH Tryz.prog laid W) (hp:(laid.all fun x=>x.2.handleName?.isNone)=true)
  (e1 : laid.filter (fun x => x.1 == "internal/strconv.optimize") = [("internal/strconv.optimize", .lit (.bool true))])
  (e2 : laid.filter (fun x => x.1 == "internal/strconv.float64info") = [("internal/strconv.float64info", .agg [.lit (.int .u64 52), .lit (.int .u64 11), .lit (.int .i64 (-1023))])])
  (e3 : laid.filter (fun x => x.1 == "internal/strconv.float64pow10") = [("internal/strconv.float64pow10", .slice (f10L.map fun z => .lit (.float .f64 z)) [])]) : Par W := by
 rw [MakeChecks.laidMetH_plain _ _ _ hp] at h0;have h1 := h0.filter (fun x => x.1 == "internal/strconv.optimize");have h2 := h0.filter (fun x => x.1 == "internal/strconv.float64info");have h3 := h0.filter (fun x => x.1 == "internal/strconv.float64pow10");rw [e1] at h1;rw [e2] at h2;rw [e3] at h3;exact ⟨opt_of h1,info_of h2,tens_of h3⟩
end Go.Proofs.YtagkgfniihiinaaGreatDoor
namespace Go.Proofs.YtagkgfniihiinaaGreatDoor
open Go.RowKit
theorem refBits_any {r:Nat} (h:r<18446744073709551616) (w:World):Calls Tryz.prog 39 #[.float .f64 r] w fun e w' => e=.returned (.int .u64 (Cp r:Int))/\w' = w:=by
 have hf:=mbits_run r;have hn:=nan_ne h;cases hnan:nanF r with
 | true=>
  have hc:Cp r=nanC:=(canon_nan r).2 hnan;rw [hnan] at hn;rw [hc];clear hnan hc
  go_enter Tryz.func39,Tryz.ntmps39
  go_wp2;go_ret;exact ⟨rfl,rfl⟩
 | false=>
  have hc:Cp r=r:=by unfold Cp;rw [hnan];rfl
  rw [hnan] at hn;rw [hc];clear hnan hc
  go_enter Tryz.func39,Tryz.ntmps39
  go_wp2;go_ret;exact ⟨rfl,rfl⟩
structure Rng (w:World):Prop where
 rng:∃te pe,w.cell? ⟨4,0,none⟩=some (.iface te pe)
theorem Rng.below {w w' : World} (h:Rng w) (hb:Below w.heap.size w w'):Rng w' := let ⟨te,pe,hv⟩:=h.rng;⟨te,pe,Aa hb _ _ hv⟩
theorem inf_pos (w:World):Calls Tryz.prog 108 #[.int .i64 1] w fun e w' => e=.returned (.float .f64 9218868437227405312)/\w' = w:=by
 have f1:∀w,(callFunc 57 #[.int .u64 9218868437227405312]).run Tryz.prog w=.ok (.value (.float .f64 9218868437227405312)) w:=fun w=>Ew 9218868437227405312 w
 go_enter Tryz.func108,Tryz.ntmps108
 go_wp2;go_ret;exact ⟨rfl,rfl⟩
theorem inf_neg (w:World):Calls Tryz.prog 108 #[.int .i64 (-1)] w fun e w' => e=.returned (.float .f64 18442240474082181120)/\w' = w:=by
 have f1:∀w,(callFunc 57 #[.int .u64 18442240474082181120]).run Tryz.prog w=.ok (.value (.float .f64 18442240474082181120)) w:=fun w=>Ew 18442240474082181120 w
 go_enter Tryz.func108,Tryz.ntmps108
 go_wp2;go_ret;exact ⟨rfl,rfl⟩
theorem parse_inf (w:World):Calls Tryz.prog 90 #[.string ⟨#[105,110,102]⟩] w fun e w' => e=.returned (.tuple #[.float .f64 9218868437227405312,.int .i64 0])/\w' = w:=by
 have hi:=inf_pos
 go_enter Tryz.func90,Tryz.ntmps90
 go_wp2_with fail
 refine (hi _).mono ?_;rintro e w' ⟨rfl,a⟩;obtain rfl:=a.symm;clear a;go_wp2
 go_ret2
 exact ⟨rfl,rfl⟩
theorem parse_minf (w:World):Calls Tryz.prog 90 #[.string ⟨#[45,105,110,102]⟩] w fun e w' => e=.returned (.tuple #[.float .f64 18442240474082181120,.int .i64 0])/\w' = w:=by
 have hi:=inf_neg
 go_enter Tryz.func90,Tryz.ntmps90
 go_wp2_with fail
 refine (hi _).mono ?_;rintro e w' ⟨rfl,a⟩;obtain rfl:=a.symm;clear a;go_wp2
 go_ret2
 exact ⟨rfl,rfl⟩
theorem parse_nan (w:World):Calls Tryz.prog 90 #[.string ⟨#[110,97,110]⟩] w fun e w' => e=.returned (.tuple #[.float .f64 9221120237041090561,.int .i64 0])/\w' = w:=by
 have f1:∀w,(callFunc 57 #[.int .u64 9221120237041090561]).run Tryz.prog w=.ok (.value (.float .f64 9221120237041090561)) w:=fun w=>Ew 9221120237041090561 w
 go_enter Tryz.func90,Tryz.ntmps90
 go_wp2
 go_ret2
 exact ⟨rfl,rfl⟩
theorem sparse_okB {s:ByteArray} {r:Nat} {w:World} (h:Calls Tryz.prog 164 #[.string s] w fun e w' => e=.returned (.tuple #[.float .f64 r,.int .i64 (s.size:Int),.nilIface])/\Below w.heap.size w w') :
  Calls Tryz.prog 85 #[.string s,.int .i64 64] w fun e w' => e=.returned (.tuple #[.float .f64 r,.nilIface])/\Below w.heap.size w w' := by
 have h2:Calls Tryz.prog 129 #[.string s,.int .i64 64] w fun e w' => e=.returned (.tuple #[.float .f64 r,.int .i64 (s.size:Int),.nilIface])/\Below w.heap.size w w' := by
  replace h:=Hd h
  go_enter Tryz.func129,Tryz.ntmps129
  go_wp2_with fail
  refine h.out.mono ?_;rintro e w' ⟨rfl,a⟩;go_wp2;exact bodyPost_ret (v:=.tuple #[.float .f64 r,.int .i64 (s.size:Int),.nilIface]) (by simp [results,Tryz.results129,go_sem]) rfl ⟨rfl,a⟩
 have h3:Calls Tryz.prog 102 #[.string s,.int .i64 64] w fun e w' => e=.returned (.tuple #[.float .f64 r,.nilIface])/\Below w.heap.size w w' := by
  replace h2:=Hd h2;clear h;have hbs:((s.size:Int) != (s.size:Int))=false:=by simp
  go_enter Tryz.func102,Tryz.ntmps102
  go_wp2_with fail
  refine h2.out.mono ?_;rintro e w' ⟨rfl,a⟩;go_wp2
  go_ret2
  exact ⟨rfl,a⟩
 replace h3:=Hd h3;clear h h2
 go_enter Tryz.func85,Tryz.ntmps85
 go_wp2_with fail
 refine h3.out.mono ?_;rintro e w' ⟨rfl,a⟩;go_wp2
 go_ret2
 exact ⟨rfl,a⟩
theorem parse_numB {s:ByteArray} {neg:Bool} {c:UInt8} {l:List UInt8} {r:Nat} {w:World} (h:s.data.toList=(if neg then [45] else [])++c :: l) (hc:isD c=true) (hs:s.size<=64) (hr:Bc s.data.toList=true)
  (hp:∀w', Below w.heap.size w w' -> Calls Tryz.prog 85 #[.string s,.int .i64 64] w' fun e w'' => e=.returned (.tuple #[.float .f64 r,.nilIface])/\Below w'.heap.size w' w'') :
  Calls Tryz.prog 90 #[.string s] w fun e w' => e=.returned (.tuple #[.float .f64 r,.int .i64 0])/\Below w.heap.size w w' := by
 obtain ⟨k1,k2,k3⟩:=num_head h hc;have a:=F3 (s:=s) (by omega) w;rw [hr] at a;have hsz:¬(64:Int)<(s.size:Int):=by omega
 replace a:=Hd a;replace hp:=Hd hp;clear h hc hr
 go_enter Tryz.func90,Tryz.ntmps90
 go_wp2_with fail
 refine a.out.mono ?_;rintro e w1 ⟨rfl,hb⟩;have b:=Hd (hp.out w1 hb);go_wp2_with fail
 refine b.out.mono ?_;rintro e w2 ⟨rfl,d⟩;go_wp2
 go_ret2
 exact ⟨rfl,hb.trans (d.mono hb.size)⟩
theorem dec_cons (n:Nat):∃c l,Lib.decDigits n=c :: l/\isD c=true:=by
 cases h:Lib.decDigits n with
 | nil=>exact absurd h (dec_nil n)
 | cons c l=>exact ⟨c,l,rfl,Dr n c (by rw [h];exact List.mem_cons_self ..)⟩
theorem whole_form {s:ByteArray} {neg:Bool} {n:Nat} (hs:s.data.toList=A7 neg++Lib.decDigits n) (h:Lib.nDigits n<=19):FTxt s neg false (Lib.decDigits n) (Lib.nDigits n) 0:=by
 obtain ⟨c,l,a,hc⟩:=dec_cons n;refine ⟨⟨c,l,[],?_,hc,?_,.none,?_⟩,?_,dec_nil n⟩
 ·rw [hs,a];rfl
 ·rw [<-a]
  have:=En (D:=Lib.decDigits n) (l:=[]) (d:=false) (L:=[]) (m:=0) (Dr n);rw [List.append_nil] at this;rw [this,Cg,List.nil_append,Nat.zero_add,Lib.decDigits_length]
 ·intro b hb
  rw [<-a] at hb;exact .inl (Dr n b hb)
 ·rw [Ai,hs,List.length_append,Lib.decDigits_length]
  cases neg<;>simp [A7]<;>omega
theorem nD_all:∀{l:List UInt8},(∀c∈l,isD c=true)->nD l=l.length
 | [],_=>rfl
 | c :: l,h=>by
  unfold nD;rw [List.takeWhile_cons_of_pos (h c (List.mem_cons_self ..)),List.length_cons,List.length_cons];congr 1;exact nD_all (fun x hx=>h x (List.mem_cons_of_mem _ hx))
end Go.Proofs.YtagkgfniihiinaaGreatDoor
namespace Go.Proofs.YtagkgfniihiinaaGreatDoor
theorem afterL_nil (l:List UInt8):Ba [] l=l:=by cases l<;>rfl
theorem nD_app:∀{A B:List UInt8},(∀c∈A,isD c=true)->(∀c l,B=c :: l->isD c=false)->nD (A++B)=A.length
 | [],[],_,_=>rfl
 | [],c :: l,_,h=>by
  unfold nD;rw [List.nil_append,List.takeWhile_cons_of_neg (by rw [h c l rfl];decide)]
 | a :: A,B,h,hB=>by
  have ih:=nD_app (A:=A) (B:=B) (fun x hx=>h x (List.mem_cons_of_mem _ hx)) hB;unfold nD at ih ⊢;rw [List.cons_append,List.takeWhile_cons_of_pos (h a (List.mem_cons_self ..)),List.length_cons,ih,List.length_cons]
theorem part_exp {X:List UInt8} {x:Int} (h:ExpAt X x):Dv 101 [43,45] X=([],true):=by
 have a:∀E:List UInt8,E≠[]->(∀c∈E,isD c=true)->(E.drop (nD E),decide (0<nD E))=(([]:List UInt8),true):=fun E hE hd=>by
  rw [nD_all hd,List.drop_length,decide_eq_true (List.length_pos_iff.2 hE)]
 cases h with
 | none=>rfl
 | @bare E hE hd=>
  rw [Dh];have:Ba [43,45] E=E:=by
   cases E with
   | nil=>rfl
   | cons c l=>
    have hc:=hd c (List.mem_cons_self ..);refine Ct fun hm=>?_;rcases List.mem_cons.1 hm with rfl | hm
    ·exact absurd hc (by decide)
    ·rw [List.mem_singleton] at hm
     subst hm;exact absurd hc (by decide)
  rw [this];exact a E hE hd
 | @plus E hE hd=>rw [Dh,Ca (by decide)];exact a E hE hd
 | @minus E hE hd=>rw [Dh,Ca (by decide)];exact a E hE hd
theorem right_form {A F X:List UInt8} {fr:Bool} {x:Int} (neg:Bool) (hA:A≠[]) (hAd:∀c∈A,isD c=true) (hF:fr=true->F≠[]) (hFd:∀c∈F,isD c=true) (hX:ExpAt X x) :
  Bc (A7 neg++(A++(Cf fr F++X)))=true:=by
 have a:∀c l,X=c :: l->isD c=false:=fun c l e=>by rw [exp_head hX c l e];decide
 have ha:Ba [45] (A7 neg++(A++(Cf fr F++X)))=A++(Cf fr F++X):=by
  cases A with
  | nil=>exact absurd rfl hA
  | cons c l=>
   have hc:=hAd c (List.mem_cons_self ..);cases neg
   ·refine Ct fun hm=>?_
    rw [List.mem_singleton] at hm;subst hm;exact absurd hc (by decide)
   ·exact Ca (by decide)
 have hn:nD (A++(Cf fr F++X))=A.length:=by
  refine nD_app hAd ?_;intro c l e;unfold Cf at e;cases fr
  ·exact a c l e
  ·cases e;decide
 have hp:Dv 46 [] (Cf fr F++X)=(X,true):=by
  cases fr
  ·show Dv 46 [] X=(X,true)
   cases hx:X with
   | nil=>rfl
   | cons c l=>
    have:=exp_head hX c l hx;subst this;exact Fy (by decide)
  ·show Dv 46 [] (46 :: (F++X))=(X,true)
   rw [Dh,afterL_nil,nD_app hFd a,List.drop_left,decide_eq_true (List.length_pos_iff.2 (hF rfl))]
 unfold Bc;dsimp only;rw [ha,hn,List.drop_left,hp];dsimp only;rw [part_exp hX,decide_eq_true (List.length_pos_iff.2 hA)];rfl
theorem NumT.right {s:ByteArray} {neg d:Bool} {r m:Nat} {L:List UInt8} {x:Int} (h:NumT s neg r d L m x):Bc s.data.toList=true:=by
 obtain ⟨A,F,X,fr,y,hs,hA,a,hF,b,hX⟩:=h.parts;rw [hs];exact right_form neg hA a hF b hX
def Ce (st:Nat) (c:UInt8):Option Nat:=
 if st=0/\c.toNat=45 then some 1
 else if st<=1/\isD c then some 2
 else if (st=2\/st=4\/st=7)/\isD c then some st
 else if st=2/\c.toNat=46 then some 3
 else if st=3/\isD c then some 4
 else if (st=2\/st=4)/\c.toNat=101 then some 5
 else if st=5/\(c.toNat=43\/c.toNat=45) then some 6
 else if (st=5\/st=6)/\isD c then some 7
 else none
def endF (st:Nat):Bool:=st == 2 || st == 4 || st == 7
def runF:Nat->List UInt8->Bool
 | st,[]=>endF st
 | st,c :: l=>match Ce st c with
  | none=>false
  | some t=>runF t l
theorem Ci {st:Nat} {c:UInt8} {l:List UInt8}:runF st (c :: l)=match Ce st c with | none=>false | some t=>runF t l:=by rw [runF]
theorem nD_yes {c:UInt8} {l:List UInt8} (h:isD c=true):nD (c :: l)=nD l+1:=by unfold nD;rw [List.takeWhile_cons,if_pos h];rfl
theorem nD_no {c:UInt8} {l:List UInt8} (h:isD c=false):nD (c :: l)=0:=by unfold nD;rw [List.takeWhile_cons,if_neg (by rw [h];decide)];rfl
def tailF (l:List UInt8):Bool:=(l.drop (nD l)).isEmpty
theorem tailF_yes {c:UInt8} {l:List UInt8} (h:isD c=true):tailF (c :: l)=tailF l:=by unfold tailF;rw [nD_yes h,List.drop_succ_cons]
theorem tailF_no {c:UInt8} {l:List UInt8} (h:isD c=false):tailF (c :: l)=false:=by unfold tailF;rw [nD_no h];rfl
theorem run7:∀l:List UInt8,runF 7 l=tailF l
 | []=>rfl
 | c :: l=>by
  rw [Ci];cases h:isD c
  ·rw [tailF_no h];simp [Ce,h]
  ·rw [tailF_yes h,<-run7 l];simp [Ce,h]
theorem run6 (l:List UInt8):runF 6 l=(decide (0<nD l) && tailF l):=by
 cases l with
 | nil=>rfl
 | cons c l=>
  rw [Ci];cases h:isD c
  ·rw [nD_no h];simp [Ce,h]
  ·rw [nD_yes h,tailF_yes h,<-run7 l];simp [Ce,h]
theorem run5 (l:List UInt8):runF 5 l=(decide (0<nD (Ba [43,45] l)) && tailF (Ba [43,45] l)):=by
 cases l with
 | nil=>rfl
 | cons c l=>
  rw [Ci];by_cases hs:c.toNat=43\/c.toNat=45
  ·have hm:c∈([43,45]:List UInt8):=by
    rcases hs with hs | hs
    ·rw [UInt8.toNat_inj.1 (show c.toNat=(43:UInt8).toNat from hs)];decide
    ·rw [UInt8.toNat_inj.1 (show c.toNat=(45:UInt8).toNat from hs)];decide
   rw [Ca hm,<-run6];simp [Ce,hs]
  ·have hm:¬c∈([43,45]:List UInt8):=by
    intro hm;rcases List.mem_cons.1 hm with h | h
    ·exact hs (.inl (by rw [h];rfl))
    ·rw [List.mem_singleton] at h
     exact hs (.inr (by rw [h];rfl))
   rw [Ct hm,<-run6,Ci];simp [Ce,hs]
def expO (l:List UInt8):Bool:=(Dv 101 [43,45] l).2 && (Dv 101 [43,45] l).1.isEmpty
theorem expO_e (l:List UInt8):expO (101 :: l)=runF 5 l:=by unfold expO;rw [Dh,run5];rfl
theorem expO_no {c:UInt8} {l:List UInt8} (h:c.toNat≠101):expO (c :: l)=false:=by
 unfold expO;rw [Fy (fun e=>h (by rw [e];rfl))];rfl
theorem run4:∀l:List UInt8,runF 4 l=expO (l.drop (nD l))
 | []=>rfl
 | c :: l=>by
  rw [Ci];cases h:isD c
  ·rw [nD_no h,List.drop_zero]
   by_cases he:c.toNat=101
   ·have:c=101:=UInt8.toNat_inj.1 he
    subst this;rw [expO_e];simp [Ce,h]
   ·rw [expO_no he];simp [Ce,h,he]
  ·rw [nD_yes h,List.drop_succ_cons,<-run4 l];simp [Ce,h]
theorem run3 (l:List UInt8):runF 3 l=(decide (0<nD l) && expO (l.drop (nD l))):=by
 cases l with
 | nil=>rfl
 | cons c l=>
  rw [Ci];cases h:isD c
  ·rw [nD_no h];simp [Ce,h]
  ·rw [nD_yes h,List.drop_succ_cons,<-run4 l];simp [Ce,h]
def fracO (l:List UInt8):Bool:=(Dv 46 [] l).2 && expO (Dv 46 [] l).1
theorem run2:∀l:List UInt8,runF 2 l=fracO (l.drop (nD l))
 | []=>rfl
 | c :: l=>by
  rw [Ci];cases h:isD c
  ·rw [nD_no h,List.drop_zero]
   by_cases h46:c.toNat=46
   ·have:c=46:=UInt8.toNat_inj.1 h46
    subst this;unfold fracO;rw [Dh,afterL_nil,<-run3];simp [Ce,h]
   ·unfold fracO
    rw [Fy (fun e=>h46 (by rw [e];rfl)),Bool.true_and];by_cases he:c.toNat=101
    ·have:c=101:=UInt8.toNat_inj.1 he
     subst this;rw [expO_e];simp [Ce,h]
    ·rw [expO_no he];simp [Ce,h,h46,he]
  ·rw [nD_yes h,List.drop_succ_cons,<-run2 l];simp [Ce,h]
theorem run1 (l:List UInt8):runF 1 l=(decide (0<nD l) && fracO (l.drop (nD l))):=by
 cases l with
 | nil=>rfl
 | cons c l=>
  rw [Ci];cases h:isD c
  ·rw [nD_no h];simp [Ce,h]
  ·rw [nD_yes h,List.drop_succ_cons,<-run2 l];simp [Ce,h]
theorem form_right (l:List UInt8):runF 0 l=Bc l:=by
 have a:Bc l=(decide (0<nD (Ba [45] l)) && fracO ((Ba [45] l).drop (nD (Ba [45] l)))):=by
  unfold Bc fracO expO;dsimp only;simp only [Bool.and_assoc]
 rw [a,<-run1];cases l with
 | nil=>rfl
 | cons c l=>
  rw [Ci];by_cases h:c.toNat=45
  ·have:c=45:=UInt8.toNat_inj.1 h
   subst this;rw [Ca (by decide)];simp [Ce]
  ·have hm:¬c∈([45]:List UInt8):=by
    intro hm;rw [List.mem_singleton] at hm;exact h (by rw [hm];rfl)
   rw [Ct hm,Ci];simp [Ce,h]
theorem nD_split (l:List UInt8):l=l.take (nD l)++l.drop (nD l)/\(l.take (nD l)).length=nD l/\(∀c∈l.take (nD l),isD c=true):=by
 refine ⟨(List.take_append_drop _ _).symm,by rw [List.length_take];have:=nD_le l;omega,fun c hc=>?_⟩;obtain ⟨i,hi,e⟩:=List.getElem_of_mem hc;rw [List.length_take] at hi;rw [List.getElem_take] at e;exact nD_at l i c (by omega) (by rw [<-e];exact List.getElem?_eq_getElem _)
theorem tail_dig {l:List UInt8} (h:decide (0<nD l)=true) (ht:tailF l=true):l≠[]/\∀c∈l,isD c=true:=by
 obtain ⟨h1,h2,h3⟩:=nD_split l;unfold tailF at ht;have h4:l.drop (nD l)=[]:=List.isEmpty_iff.1 ht;rw [h4,List.append_nil] at h1;have h0:=of_decide_eq_true h;refine ⟨fun e=>?_,fun c hc=>h3 c (by rw [<-h1];exact hc)⟩;rw [e] at h0;exact absurd h0 (by decide)
theorem exp_parts {l:List UInt8} (h:expO l=true):∃x,ExpAt l x:=by
 cases l with
 | nil=>exact ⟨_,.none⟩
 | cons c l=>
  by_cases he:c.toNat=101
  ·have:c=101:=UInt8.toNat_inj.1 he
   subst this;rw [expO_e,run5,Bool.and_eq_true] at h;cases l with
   | nil=>exact absurd h.1 (by decide)
   | cons a r=>
    by_cases h1:a=43
    ·subst h1
     rw [Ca (by decide)] at h;obtain ⟨a1,a2⟩:=tail_dig h.1 h.2;exact ⟨_,.plus a1 a2⟩
    ·by_cases h2:a=45
     ·subst h2
      rw [Ca (by decide)] at h;obtain ⟨a1,a2⟩:=tail_dig h.1 h.2;exact ⟨_,.minus a1 a2⟩
     ·rw [Ct (by simp [h1,h2])] at h
      obtain ⟨a1,a2⟩:=tail_dig h.1 h.2;exact ⟨_,.bare a1 a2⟩
  ·rw [expO_no he] at h;cases h
theorem right_parts {l:List UInt8} (h:Bc l=true):∃neg A F X fr x,l=A7 neg++(A++(Cf fr F++X))/\A≠[]/\(∀c∈A,isD c=true)/\(fr=false->F=[])/\(∀c∈F,isD c=true)/\ExpAt X x:=by
 have d:Bc l=(decide (0<nD (Ba [45] l)) && fracO ((Ba [45] l).drop (nD (Ba [45] l)))):=by
  unfold Bc fracO expO;dsimp only;simp only [Bool.and_assoc]
 rw [d,Bool.and_eq_true] at h;have b:∃neg,l=A7 neg++Ba [45] l:=by
  cases l with
  | nil=>exact ⟨false,rfl⟩
  | cons c l=>
   by_cases e:c=45
   ·subst e;exact ⟨true,by rw [Ca (by decide)];rfl⟩
   ·exact ⟨false,by rw [Ct (by simp [e])];rfl⟩
 obtain ⟨neg,b⟩:=b;generalize Ba [45] l=a at *;obtain ⟨h1,h2,h3⟩:=nD_split a;have h0:=of_decide_eq_true h.1;have hf:=h.2;clear d h;generalize a.take (nD a)=A at h1 h2 h3;generalize a.drop (nD a)=R at h1 hf;have hA:A≠[]:=fun e=>by rw [e] at h2;simp at h2;omega
 unfold fracO at hf;rw [Bool.and_eq_true] at hf;cases R with
 | nil=>exact ⟨neg,A,[],[],false,0,by rw [b,h1];rfl,hA,h3,fun _=>rfl,fun _ hc=>(by cases hc),.none⟩
 | cons c r=>
  by_cases e:c=46
  ·subst e
   rw [Dh,afterL_nil] at hf;obtain ⟨g1,g2,g3⟩:=nD_split r;obtain ⟨x,hX⟩:=exp_parts hf.2;refine ⟨neg,A,r.take (nD r),r.drop (nD r),true,x,?_,hA,h3,fun h=>(by cases h),g3,hX⟩;rw [b,h1];show _=A7 neg++(_++(46 :: r.take (nD r)++r.drop (nD r)));rw [List.cons_append,<-g1]
  ·rw [Fy e] at hf
   obtain ⟨x,hX⟩:=exp_parts hf.2;exact ⟨neg,A,[],c :: r,false,x,by rw [b,h1];rfl,hA,h3,fun _=>rfl,fun _ hc=>(by cases hc),hX⟩
theorem right_txt {s:ByteArray} (h:Bc s.data.toList=true) (hz:s.size<=1000):∃neg d L m x,FTxt s neg d L m x/\∃c l,s.data.toList=(if neg then [45] else [])++c :: l/\isD c=true:=by
 obtain ⟨neg,A,F,X,fr,x,hs,hA,a,hF,b,hX⟩:=right_parts h;exact ⟨neg,fr,_,_,x,txt_form hs hz hA a hF b hX⟩
end Go.Proofs.YtagkgfniihiinaaGreatDoor
namespace Go.Proofs.YtagkgfniihiinaaGreatDoor
open Go.RowKit
theorem rform_any {s:ByteArray} (hs:s.size<=1000) (w:World):Calls Tryz.prog 110 #[.string s] w fun e w' => e=.returned (.bool (runF 0 s.data.toList))/\w' = w:=by
 obtain ⟨R,hR⟩:∃R,R=runF 0 s.data.toList:=⟨_,rfl⟩;rw [<-hR];replace hR:=Hd hR;have hsz:(s.size:Int)<=1000:=by omega
 go_enter Tryz.func110,Tryz.ntmps110
 go_wp2_with fail
 go_loop [3,4,5,6] (fun s3 s4 _ _=>∃st i:Nat,st<=7/\i<=s.size/\s3=.int .i64 (st:Int)/\s4=.int .i64 (i:Int)/\runF st (s.data.toList.drop i)=R) (fun _ s4 _ _=>s.size - (intOf s4).toNat)
 case atStart=>exact ⟨0,0,by omega,Nat.zero_le _,rfl,rfl,hR.out.symm⟩
 case round=>
   obtain ⟨st,i,hst,hi,rfl,rfl,hl⟩:=hrel;by_cases hlt:i<s.size
   · have m:(i:Int)<(s.size:Int):=by omega
     obtain ⟨c,hcc⟩:∃c,s[i]'hlt=c:=⟨_,rfl⟩;have l:s.data.toList.drop i=c :: s.data.toList.drop (i+1):=by
       have k : i<s.data.toList.length:=by rw [Array.length_toList];exact hlt
       have h1:=Lib.data_getElem? s i hlt;rw [List.getElem?_eq_getElem k, hcc] at h1;rw [List.drop_eq_getElem_cons k, Option.some.inj h1]
     rw [l,Ci] at hl;replace l:=Hd l;have g:c.toNat<256:=c.toNat_lt;by_cases hdg:isD c=true
     · have hd:=hdg
       have h:48<=c.toNat/\c.toNat<=57:=by simp [isD] at hdg;exact hdg
       have r1:(48:Int)<=(c.toNat:Int):=by omega
       have r2:(c.toNat:Int)<=57:=by omega
       have b:¬c.toNat=45:=by omega
       have d:¬c.toNat=46:=by omega
       have a:¬c.toNat=101:=by omega
       have f:¬c.toNat=43:=by omega
       have p:((c.toNat:Int) == 45)=false:=by rw [beq_eq_false_iff_ne];omega
       have q:((c.toNat:Int) == 46)=false:=by rw [beq_eq_false_iff_ne];omega
       have n:((c.toNat:Int) == 101)=false:=by rw [beq_eq_false_iff_ne];omega
       have r:((c.toNat:Int) == 43)=false:=by rw [beq_eq_false_iff_ne];omega
       clear hdg h g;obtain rfl | rfl | rfl | rfl | rfl | rfl | rfl | rfl:st=0\/st=1\/st=2\/st=3\/st=4\/st=5\/st=6\/st=7:=by omega
       all_goals
         simp [Ce,hd,b,d,a,f] at hl
         replace hl:=Hd hl
         replace hd:=Hd hd
         replace b:=Hd b
         replace d:=Hd d
         replace a:=Hd a
         replace f:=Hd f
         first
           | (go_wp2_with fail
              go_round
              case rel=>refine ⟨_,i+1,?_,by omega,?_,by go_num,hl.out⟩<;>first | rfl | omega
              case measure=>simp [intOf];omega)
           | (go_wp2
              go_ret
              first
                | exact ⟨by rw [hl.out];rfl,rfl⟩
                | exact ⟨by rw [<-hl.out];rfl,rfl⟩)
     · have hd:isD c=false:=by simpa using hdg
       have h:¬(48<=c.toNat/\c.toNat<=57):=by simp [isD] at hdg;omega
       by_cases k45:c.toNat=45
       · have b:=k45
         have d:¬c.toNat=46:=by omega
         have a:¬c.toNat=101:=by omega
         have f:¬c.toNat=43:=by omega
         have hv:(c.toNat:Int)=45:=by omega
         clear hdg h g k45;obtain rfl | rfl | rfl | rfl | rfl | rfl | rfl | rfl:st=0\/st=1\/st=2\/st=3\/st=4\/st=5\/st=6\/st=7:=by omega
         all_goals
           simp [Ce,hd,b,d,a,f] at hl
           replace hl:=Hd hl
           replace hd:=Hd hd
           replace b:=Hd b
           replace d:=Hd d
           replace a:=Hd a
           replace f:=Hd f
           first
             | (go_wp2_with fail
                go_round
                case rel=>refine ⟨_,i+1,?_,by omega,?_,by go_num,hl.out⟩<;>first | rfl | omega
                case measure=>simp [intOf];omega)
             | (go_wp2
                go_ret
                first
                  | exact ⟨by rw [hl.out];rfl,rfl⟩
                  | exact ⟨by rw [<-hl.out];rfl,rfl⟩)
       by_cases k46:c.toNat=46
       · have b:=k45
         have d:=k46;have a:¬c.toNat=101:=by omega
         have f:¬c.toNat=43:=by omega
         have hv:(c.toNat:Int)=46:=by omega
         clear hdg h g k45 k46;obtain rfl | rfl | rfl | rfl | rfl | rfl | rfl | rfl:st=0\/st=1\/st=2\/st=3\/st=4\/st=5\/st=6\/st=7:=by omega
         all_goals
           simp [Ce,hd,b,d,a,f] at hl
           replace hl:=Hd hl
           replace hd:=Hd hd
           replace b:=Hd b
           replace d:=Hd d
           replace a:=Hd a
           replace f:=Hd f
           first
             | (go_wp2_with fail
                go_round
                case rel=>refine ⟨_,i+1,?_,by omega,?_,by go_num,hl.out⟩<;>first | rfl | omega
                case measure=>simp [intOf];omega)
             | (go_wp2
                go_ret
                first
                  | exact ⟨by rw [hl.out];rfl,rfl⟩
                  | exact ⟨by rw [<-hl.out];rfl,rfl⟩)
       by_cases k101:c.toNat=101
       · have b:=k45
         have d:=k46;have a:=k101;have f:¬c.toNat=43:=by omega
         have hv:(c.toNat:Int)=101:=by omega
         clear hdg h g k45 k46 k101;obtain rfl | rfl | rfl | rfl | rfl | rfl | rfl | rfl:st=0\/st=1\/st=2\/st=3\/st=4\/st=5\/st=6\/st=7:=by omega
         all_goals
           simp [Ce,hd,b,d,a,f] at hl
           replace hl:=Hd hl
           replace hd:=Hd hd
           replace b:=Hd b
           replace d:=Hd d
           replace a:=Hd a
           replace f:=Hd f
           first
             | (go_wp2_with fail
                go_round
                case rel=>refine ⟨_,i+1,?_,by omega,?_,by go_num,hl.out⟩<;>first | rfl | omega
                case measure=>simp [intOf];omega)
             | (go_wp2
                go_ret
                first
                  | exact ⟨by rw [hl.out];rfl,rfl⟩
                  | exact ⟨by rw [<-hl.out];rfl,rfl⟩)
       by_cases k43:c.toNat=43
       · have b:=k45
         have d:=k46;have a:=k101;have f:=k43;have hv:(c.toNat:Int)=43:=by omega
         clear hdg h g k45 k46 k101 k43;obtain rfl | rfl | rfl | rfl | rfl | rfl | rfl | rfl:st=0\/st=1\/st=2\/st=3\/st=4\/st=5\/st=6\/st=7:=by omega
         all_goals
           simp [Ce,hd,b,d,a,f] at hl
           replace hl:=Hd hl
           replace hd:=Hd hd
           replace b:=Hd b
           replace d:=Hd d
           replace a:=Hd a
           replace f:=Hd f
           first
             | (go_wp2_with fail
                go_round
                case rel=>refine ⟨_,i+1,?_,by omega,?_,by go_num,hl.out⟩<;>first | rfl | omega
                case measure=>simp [intOf];omega)
             | (go_wp2
                go_ret
                first
                  | exact ⟨by rw [hl.out];rfl,rfl⟩
                  | exact ⟨by rw [<-hl.out];rfl,rfl⟩)
       have b:=k45;have d:=k46;have a:=k101;have f:=k43;have p:((c.toNat:Int) == 45)=false:=by rw [beq_eq_false_iff_ne];omega
       have q:((c.toNat:Int) == 46)=false:=by rw [beq_eq_false_iff_ne];omega
       have n:((c.toNat:Int) == 101)=false:=by rw [beq_eq_false_iff_ne];omega
       have r:((c.toNat:Int) == 43)=false:=by rw [beq_eq_false_iff_ne];omega
       by_cases h48:48<=c.toNat
       · have r1:(48:Int)<=(c.toNat:Int):=by omega
         have r2:¬(c.toNat:Int)<=57:=by omega
         clear hdg h g k45 k46 k101 k43 h48;obtain rfl | rfl | rfl | rfl | rfl | rfl | rfl | rfl:st=0\/st=1\/st=2\/st=3\/st=4\/st=5\/st=6\/st=7:=by omega
         all_goals
           simp [Ce,hd,b,d,a,f] at hl
           replace hl:=Hd hl
           replace hd:=Hd hd
           replace b:=Hd b
           replace d:=Hd d
           replace a:=Hd a
           replace f:=Hd f
           first
             | (go_wp2_with fail
                go_round
                case rel=>refine ⟨_,i+1,?_,by omega,?_,by go_num,hl.out⟩<;>first | rfl | omega
                case measure=>simp [intOf];omega)
             | (go_wp2
                go_ret
                first
                  | exact ⟨by rw [hl.out];rfl,rfl⟩
                  | exact ⟨by rw [<-hl.out];rfl,rfl⟩)
       · have r1:¬(48:Int)<=(c.toNat:Int):=by omega
         clear hdg h g k45 k46 k101 k43 h48;obtain rfl | rfl | rfl | rfl | rfl | rfl | rfl | rfl:st=0\/st=1\/st=2\/st=3\/st=4\/st=5\/st=6\/st=7:=by omega
         all_goals
           simp [Ce,hd,b,d,a,f] at hl
           replace hl:=Hd hl
           replace hd:=Hd hd
           replace b:=Hd b
           replace d:=Hd d
           replace a:=Hd a
           replace f:=Hd f
           first
             | (go_wp2_with fail
                go_round
                case rel=>refine ⟨_,i+1,?_,by omega,?_,by go_num,hl.out⟩<;>first | rfl | omega
                case measure=>simp [intOf];omega)
             | (go_wp2
                go_ret
                first
                  | exact ⟨by rw [hl.out];rfl,rfl⟩
                  | exact ⟨by rw [<-hl.out];rfl,rfl⟩)
   · have o:i=s.size:=by omega
     have m:¬(i:Int)<(s.size:Int):=by omega
     have j:s.data.toList.drop i=[]:=List.drop_eq_nil_of_le (by rw [Array.length_toList];show s.size<=i;omega);rw [j] at hl;replace j:=Hd j;replace o:=Hd o;obtain rfl | rfl | rfl | rfl | rfl | rfl | rfl | rfl:st=0\/st=1\/st=2\/st=3\/st=4\/st=5\/st=6\/st=7:=by omega
     all_goals
       replace hl:=Hd hl
       go_wp2
       go_ret
       exact ⟨by rw [<-hl.out];rfl,rfl⟩
