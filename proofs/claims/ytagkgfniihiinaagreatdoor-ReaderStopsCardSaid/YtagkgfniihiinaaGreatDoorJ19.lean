/- What is laid at the start for floats. -/
import Derived.Test.YtagkgfniihiinaaGreatDoorJ100
import Derived.ProofKit
import Derived.OpenShut
import Derived.LaidMore
import Derived.LaidSub
import Derived.Stop.LaidErr
import Derived.Lay
import Derived.Test.YtagkgfniihiinaaGreatDoorRIs
set_option linter.all false
namespace Go.Proofs.YtagkgfniihiinaaGreatDoor
open Go.ChangeShapes Go.WideShapes Go.ChangeAt Go.RowKit
section
variable {H:Type} {enc:TypeId × Value->H} {P:Program} {w:World} {base:Nat} {spare:Nat->Bool} {held:Bool} {fuel:Nat} {t:TypeId} {cs:List Value} {x:DataW H × List MemPlace}
theorem trod_float {k:FloatKind} (ht:P.underlying t=some (.float k)) (h:DataW.trod enc P w base spare held fuel t cs=some x):∃n,cs=[.float k n]/\x=(.lit (.float k n),[]):=by
 cases fuel with
 | zero=>simp [DataW.trod] at h
 | succ n=>
  unfold DataW.trod at h;rw [ht] at h;split at h<;>simp_all
end
theorem rows_ok:Go.Pinned.pow10Rows=(List.range 696).map fun (i:Nat)=>(hiT ((i:Int) - 348),loT ((i:Int) - 348)):=by decide +kernel
theorem pows_of {W : World} (h : laidMet Tryz.prog [("internal/strconv.pow10Tab", Go.Pinned.pow10Tab)] W) : Pows W := by
 obtain ⟨ps,⟨g', t', cs,fuel,p,q,f, af, c,hd,_,_⟩,_⟩:=h;obtain rfl : 8 = g' := Option.some.inj ((show Tryz.prog.globalNamed "internal/strconv.pow10Tab" = some 8 by kernel_rfl).symm.trans f);obtain rfl:290=t' := Option.some.inj ((show (Tryz.prog.globals[8]?).map (·.type)=some 290 by kernel_rfl).symm.trans af)
 obtain ⟨xs,m,rfl,hx,hl,hxl,s⟩:=DataW.trod_array (n:=696) (e:=289) Tryz.underlying290 hd;have aa:xs.map (·.1)=Go.Pinned.pow10Rows.map fun x=>(DataW.agg [.lit (.int .u64 x.1),.lit (.int .u64 x.2)]:DataW Unit):=by
  have:=congrArg Prod.fst hx;simp only [Go.Pinned.pow10Tab,DataW.agg.injEq] at this;exact this.symm
 have ab:Tryz.prog.cellsOf 289=2:=by kernel_rfl
 have g:Tryz.prog.cellsOf 60=1:=by kernel_rfl
 rw [ab] at s;intro pw p0 p1;obtain ⟨i,hi⟩:∃i:Nat,pw=(i:Int) - 348:=⟨(pw+348).toNat,by omega⟩;have j:i<696:=by omega
 have ac:(pw+348).toNat=i:=by omega
 rw [ac];have l:Go.Pinned.pow10Rows[i]?=some (hiT pw,loT pw):=by
  rw [rows_ok,List.getElem?_map,List.getElem?_range j,hi];rfl
 have o:(xs.map (·.1))[i]?=some (DataW.agg [.lit (.int .u64 (hiT pw)),.lit (.int .u64 (loT pw))]):=by
  rw [aa,List.getElem?_map,l];rfl
 rw [List.getElem?_map,Option.map_eq_some_iff] at o;obtain ⟨y,hy,t⟩:=o;have he:=s i j;rw [hy] at he;obtain ⟨ys,n,rfl,ag,hyl,ah,u⟩:=DataW.trod_struct Tryz.underlying289 he;have d:ys.map (·.1)=[DataW.lit (.int .u64 (hiT pw)),.lit (.int .u64 (loT pw))]:=by
  rw [ag] at t;simpa using t
 obtain ⟨y0,y1,rfl⟩:∃y0 y1,ys=[y0,y1]:=by
  match ys,ah with
  | [a,b],_=>exact ⟨a,b,rfl⟩
 simp only [List.map_cons,List.map_nil,List.cons.injEq,and_true] at d;have ad:DataW.trod (fun _=>()) Tryz.prog W 0 (fun _=>true) false n 60 ((((cs.toList.drop (i * 2)).take 2).drop 0).take 1)=some y0:=by
  have:=u 0 _ rfl;rw [show (#[(_:Field),_])[0].type=60 from rfl,g] at this;exact this
 have ae:DataW.trod (fun _=>()) Tryz.prog W 0 (fun _=>true) false n 60 ((((cs.toList.drop (i * 2)).take 2).drop 1).take 1)=some y1:=by
  have:=u 1 _ rfl;rw [show (#[(_:Field),_])[1].type=60 from rfl,g] at this;exact this
 have r:∀(k:Nat) (y:DataW Unit × List MemPlace) (z:Int),k<2->DataW.trod (fun _=>()) Tryz.prog W 0 (fun _=>true) false n 60 ((((cs.toList.drop (i * 2)).take 2).drop k).take 1)=some y->y.1=.lit (.int .u64 z)->cs[i * 2+k]?=some (.int .u64 z):=fun k y z hk hf hz=>by
  obtain ⟨v,h1,h2,_⟩:=DataW.trod_int Tryz.underlying60 hf;have h3:v=z:=by rw [h2] at hz;simpa using hz
  have h4:=congrArg (·[0]?) h1
  simp only [List.getElem?_take,List.getElem?_drop] at h4;rw [if_pos (by omega),if_pos (by omega)] at h4;rw [<-Array.getElem?_toList,<-h3];have h5:i * 2+(k+0)=i * 2+k:=by omega
  rw [h5] at h4;simpa using h4
 exact ⟨(World.var?_cell f c _).trans (by have:=r 0 y0 _ (by omega) ad d.1;simpa using this),(World.var?_cell f c _).trans (r 1 y1 _ (by omega) ae d.2)⟩
end Go.Proofs.YtagkgfniihiinaaGreatDoor
namespace Go.Proofs.YtagkgfniihiinaaGreatDoor
open Go.RowKit
def f10L:List Nat:=[4607182418800017408,4621819117588971520,4636737291354636288,4652007308841189376,4666723172467343360,4681608360884174848,4696837146684686336,4711630319722168320,4726483295884279808,4741671816366391296,4756540486875873280,4771362005757984768,4786511204640096256,4801453603149578240,4816244402031689728,4831355200913801216,4846369599423283200,4861130398305394688,4876203697187506176,4891288408196988160,4906019910204099648,4921056587992461136,4936209963552724370]
structure Par (w:World):Prop where
 opt:w.cell? ⟨2,0,none⟩=some (.bool true)
 bits:w.cell? ⟨7,0,none⟩=some (.int .u64 52)
 tens:∃(b:Addr) (c:Nat),w.cell? ⟨14,0,none⟩=some (.slice (some b) 23 c)/\∀i z,f10L[i]?=some z->w.cell? (b.add i)=some (.float .f64 z)
def fltN (neg:Bool) (d:Nat):Nat:=if neg then Op.negFloat .f64 (floatOfInt .f64 (d:Int)) else floatOfInt .f64 (d:Int)
set_option maxRecDepth 100000 in
theorem exact_neg {w:World} {d i z r:Nat} {neg:Bool} (hd:d<4503599627370496) (hi1:1<=i) (hi:i<=22) (hz1:f10L[i]?=some z) (hr:floatBits .quo .f64 (fltN neg d) z=some r) (hP:Par w) :
  Calls Tryz.prog 212 #[.int .u64 (d:Int),.int .i64 (-(i:Int)),.bool neg] w fun e w' => e=.returned (.tuple #[.float .f64 r,.bool true])/\w' = w:=by
 obtain ⟨b,c,h1,h2⟩:=hP.tens;have hb:=hP.bits;have hz:(d:Int) / 4503599627370496=0:=by omega
 have hi0:(i:Int)<=22:=by omega
 have hi2:(1:Int)<=(i:Int):=by omega
 have h3:=h2 i z hz1;have a:=F0;have hi3:((-(i:Int)) == 0)=false:=by simp;omega
 obtain ⟨F,hF⟩:∃F,floatOfInt .f64 (d:Int)=F:=⟨_,rfl⟩;obtain ⟨G,hG⟩:∃G,fltN neg d=G:=⟨_,rfl⟩;have hq:=fun w=>run_float_arith (P:=Tryz.prog) w .quo 23 .f64 G z r (by rw [<-hG];exact hr);clear hr;replace hz1:=Hd hz1;clear h2;cases neg
 ·obtain rfl:F=G:=by rw [<-hG,<-hF,fltN,if_neg (by decide)]
  clear hG
  go_enter Tryz.func212,Tryz.ntmps212
  go_wp2
  go_ret2
  exact ⟨rfl,rfl⟩
 ·have f:Op.negFloat .f64 F=G:=by rw [<-hG,<-hF,fltN,if_pos rfl]
  have g:=a F;rw [f] at g;clear hG f a
  go_enter Tryz.func212,Tryz.ntmps212
  go_wp2
  go_ret2
  exact ⟨rfl,rfl⟩
