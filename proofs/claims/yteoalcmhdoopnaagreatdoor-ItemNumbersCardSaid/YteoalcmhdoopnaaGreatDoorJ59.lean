/- What is laid at the start for reading floats of many digits. -/
import Derived.Test.YteoalcmhdoopnaaGreatDoorParB
import Derived.Test.YteoalcmhdoopnaaGreatDoorJ37
import Derived.Test.YteoalcmhdoopnaaGreatDoorItRea2
import Derived.Test.YteoalcmhdoopnaaGreatDoorJ53
import Derived.Test.YteoalcmhdoopnaaGreatDoorItAlive
import Derived.Test.YteoalcmhdoopnaaGreatDoorJ5
import Derived.Test.YteoalcmhdoopnaaGreatDoorJ43
import Derived.Test.YteoalcmhdoopnaaGreatDoorTx01
import Derived.Test.YteoalcmhdoopnaaGreatDoorJ34
namespace Go.Proofs.YteoalcmhdoopnaaGreatDoor
open Go.ChangeShapes Go.WideShapes Go.ChangeAt Go.RowKit
theorem cheat_rows:∀k:Fin 61,1<=k.val->Go.Pinned.cheatRows[k.val]?=some (Co k.val,Lib.decDigits (5 ^ k.val)):=by decide +kernel
theorem cheat_len:Go.Pinned.cheatRows.length=61:=by decide +kernel
theorem cheats_of {W : World} (h : laidMet Tryz.prog [("internal/strconv.leftcheats", Go.Pinned.leftcheats)] W) :
   ∃(b:Addr) (c:Nat),W.cell? ⟨14,0,none⟩=some (.slice (some b) 61 c)/\∀k,1<=k->k<=60->W.cell? (b.add (k * 2))=some (.int .i64 (Co k:Int))/\W.cell? ⟨(b.add (k * 2)).block,(b.add (k * 2)).off+1,none⟩=some (.string (cutS k)):=by
 obtain ⟨ps,⟨g', t', cs,fuel,p,q,hg', ht', hvar,hd,_,_⟩,_⟩:=h
 obtain rfl : 14 = g' := Option.some.inj ((show Tryz.prog.globalNamed "internal/strconv.leftcheats" = some 14 by kernel_rfl).symm.trans hg')
 obtain rfl:207=t' := Option.some.inj ((show (Tryz.prog.globals[14]?).map (·.type)=some 207 by kernel_rfl).symm.trans ht')
 have hc2:Tryz.prog.cellsOf 206=2:=by kernel_rfl
 have hc1:Tryz.prog.cellsOf 3=1:=by kernel_rfl
 have hcs:Tryz.prog.cellsOf 9=1:=by kernel_rfl
 rcases DataW.trod_slice Tryz.underlying207 hd with ⟨_,h2⟩ | ⟨a,len,cap,elems,rest,n,rfl,h1,h2,hb,hlc,hcm,hel,hat,_,_⟩
 · have:=congrArg Prod.fst h2
   cases this
 · have hem:elems.map (·.1)=Go.Pinned.cheatRows.map fun x=>(DataW.agg [.lit (.int .i64 x.1),.lit (.string x.2)]:DataW Unit):=by
     have:=congrArg Prod.fst h2;unfold Go.Pinned.leftcheats at this;simp only [DataW.slice.injEq] at this;exact this.1.symm
   have hl61:len=61:=by
     have:=congrArg List.length hem;rw [List.length_map,List.length_map,hel,cheat_len] at this;exact this
   rw [hc2] at hat;refine ⟨a,cap,?_,fun k k1 k2=>?_⟩
   · rw [World.var?_cell hg' hvar 0,<-Array.getElem?_toList,h1,hl61];rfl
   · have h3:=hat k (by omega)
     have h4:(elems.map (·.1))[k]?=some (DataW.agg [.lit (.int .i64 (Co k)),.lit (.string (Lib.decDigits (5 ^ k)))]):=by
       rw [hem,List.getElem?_map,cheat_rows ⟨k,by omega⟩ k1];rfl
     rw [List.getElem?_map,Option.map_eq_some_iff] at h4;obtain ⟨y,hy,hy1⟩:=h4;rw [hy,Option.bind_eq_some_iff] at h3;obtain ⟨l,hl,ht⟩:=h3;obtain ⟨y0,y1,m,rfl,hll,hf0,hf1⟩:=trod_struct2 Tryz.underlying206 ht;simp only [DataW.agg.injEq,List.cons.injEq,and_true] at hy1;obtain ⟨v0,e0,e1,_⟩:=DataW.trod_int Tryz.underlying3 hf0;obtain ⟨v1,e2,e3,_⟩:=DataW.trod_string Tryz.underlying9 hf1;have q0:v0=Co k:=by
       have:=hy1.1;rw [e1] at this;simpa using this
     have q1:v1=cutS k:=by
       have:=hy1.2;rw [e3] at this;have h9:v1.data.toList=Lib.decDigits (5 ^ k):=by simpa using this
       unfold cutS;exact ByteArray.ext (by rw [<-h9])
     rw [hc1] at e0;rw [hcs] at e2;obtain ⟨_,hlen,hcell⟩:=World.cells?_some hl;have c0:l[0]?=some (.int .i64 v0):=by
       have:=congrArg (·[0]?) e0
       simpa using this
     have c1:l[1]?=some (.string v1):=by
       have:=congrArg (·[0]?) e2
       simpa using this
     have d0:=hcell 0 (by omega);have d1:=hcell 1 (by omega);rw [c0,q0] at d0;rw [c1,q1] at d1;exact ⟨d0,d1⟩
theorem pt_rows:∀i:Fin 9,ptL[i.val]?=some (pt i.val):=by decide +kernel
theorem pts_of {W : World} (h : laidMet Tryz.prog [("internal/strconv.powtab", .slice (ptL.map fun z => .lit (.int .i64 ((z : Nat) : Int))) [])] W) :
   ∃(b:Addr) (c:Nat),W.cell? ⟨9,0,none⟩=some (.slice (some b) 9 c)/\∀i,i<9->W.cell? (b.add i)=some (.int .i64 (pt i:Int)):=by
 obtain ⟨ps,⟨g', t', cs,fuel,p,q,hg', ht', hvar,hd,_,_⟩,_⟩:=h
 obtain rfl : 9 = g' := Option.some.inj ((show Tryz.prog.globalNamed "internal/strconv.powtab" = some 9 by kernel_rfl).symm.trans hg')
 obtain rfl:195=t' := Option.some.inj ((show (Tryz.prog.globals[9]?).map (·.type)=some 195 by kernel_rfl).symm.trans ht')
 have hc1:Tryz.prog.cellsOf 3=1:=by kernel_rfl
 rcases DataW.trod_slice Tryz.underlying195 hd with ⟨_,h2⟩ | ⟨a,len,cap,elems,rest,n,rfl,h1,h2,hb,hlc,hcm,hel,hat,_,_⟩
 · have:=congrArg Prod.fst h2
   cases this
 · have hem:elems.map (·.1)=ptL.map fun z=>(DataW.lit (.int .i64 ((z:Nat):Int)):DataW Unit):=by
     have:=congrArg Prod.fst h2;simp only [DataW.slice.injEq] at this;exact this.1.symm
   have hl9:len=9:=by
     have:=congrArg List.length hem;rw [List.length_map,List.length_map,hel] at this;exact this
   rw [hc1] at hat;refine ⟨a,cap,?_,fun i hi=>?_⟩
   · rw [World.var?_cell hg' hvar 0,<-Array.getElem?_toList,h1,hl9];rfl
   · have h3:=hat i (by omega)
     have h4:(elems.map (·.1))[i]?=some (DataW.lit (.int .i64 (pt i))):=by rw [hem,List.getElem?_map,pt_rows ⟨i,hi⟩];rfl
     rw [List.getElem?_map,Option.map_eq_some_iff] at h4;obtain ⟨y,hy,hy1⟩:=h4;rw [hy,Option.bind_eq_some_iff] at h3;obtain ⟨l,hl,ht⟩:=h3;obtain ⟨v,h5,h6,_⟩:=DataW.trod_int Tryz.underlying3 ht;have h7:v=pt i:=by rw [h6] at hy1;simpa using hy1
     rw [h5,h7,Nat.mul_one] at hl;exact cell_of_cells?_one hl
theorem info3_of {W : World} (h : laidMet Tryz.prog [("internal/strconv.float64info", .agg [.lit (.int .u64 52), .lit (.int .u64 11), .lit (.int .i64 (-1023))])] W) :
   W.cell? ⟨7,0,none⟩=some (.int .u64 52)/\W.cell? ⟨7,1,none⟩=some (.int .u64 11)/\W.cell? ⟨7,2,none⟩=some (.int .i64 (-1023)):=by
 obtain ⟨ps,⟨g', t', cs,fuel,p,q,hg', ht', hvar,hd,_,_⟩,_⟩:=h
 obtain rfl : 7 = g' := Option.some.inj ((show Tryz.prog.globalNamed "internal/strconv.float64info" = some 7 by kernel_rfl).symm.trans hg')
 obtain rfl:160=t' := Option.some.inj ((show (Tryz.prog.globals[7]?).map (·.type)=some 160 by kernel_rfl).symm.trans ht')
 have hc1:Tryz.prog.cellsOf 68=1:=by kernel_rfl
 have hc2:Tryz.prog.cellsOf 3=1:=by kernel_rfl
 obtain ⟨y0,y1,y2,n,hyy,hyl,hf0,hf1,hf2⟩:=Go.Deep.trod_struct3 Tryz.underlying160 hd
 have hym:[y0.1,y1.1,y2.1]=[DataW.lit (.int .u64 52),.lit (.int .u64 11),.lit (.int .i64 (-1023))]:=by
   have:=congrArg Prod.fst hyy;simp only [DataW.agg.injEq] at this;exact this.symm
 simp only [List.cons.injEq,and_true] at hym
 obtain ⟨v0,e0,g0,_⟩:=DataW.trod_int Tryz.underlying68 hf0
 obtain ⟨v1,e1,g1,_⟩:=DataW.trod_int Tryz.underlying68 hf1
 obtain ⟨v2,e2,g2,_⟩:=DataW.trod_int Tryz.underlying3 hf2
 have q0:v0=52:=by have:=hym.1;rw [g0] at this;simpa using this
 have q1:v1=11:=by have:=hym.2.1;rw [g1] at this;simpa using this
 have q2:v2=-1023:=by have:=hym.2.2;rw [g2] at this;simpa using this
 rw [hc1] at e0 e1
 rw [hc2] at e2
 have c0:cs[0]?=some (.int .u64 v0):=by
   rw [<-Array.getElem?_toList];have:=congrArg (·[0]?) e0
   simpa using this
 have c1:cs[1]?=some (.int .u64 v1):=by
   rw [<-Array.getElem?_toList];have:=congrArg (·[0]?) e1
   simpa using this
 have c2:cs[2]?=some (.int .i64 v2):=by
   rw [<-Array.getElem?_toList];have:=congrArg (·[0]?) e2
   simpa using this
 refine ⟨?_,?_,?_⟩
 · rw [World.var?_cell hg' hvar 0,c0,q0]
 · rw [World.var?_cell hg' hvar 1,c1,q1]
 · rw [World.var?_cell hg' hvar 2,c2,q2]
theorem slow_of {W:World} {laid:List (String × DataW Unit)} (h0:laidMetH Tryz.prog laid W) (hp:(laid.all fun x=>x.2.handleName?.isNone)=true)
   (e1 : laid.filter (fun x => x.1 == "internal/strconv.leftcheats") = [("internal/strconv.leftcheats", Go.Pinned.leftcheats)])
   (e2 : laid.filter (fun x => x.1 == "internal/strconv.float64info") = [("internal/strconv.float64info", .agg [.lit (.int .u64 52), .lit (.int .u64 11), .lit (.int .i64 (-1023))])])
   (e3 : laid.filter (fun x => x.1 == "internal/strconv.powtab") = [("internal/strconv.powtab", .slice (ptL.map fun z => .lit (.int .i64 ((z : Nat) : Int))) [])]) : Slow W := by
 rw [MakeChecks.laidMetH_plain _ _ _ hp] at h0
 have h1 := h0.filter (fun x => x.1 == "internal/strconv.leftcheats")
 have h2 := h0.filter (fun x => x.1 == "internal/strconv.float64info")
 have h3 := h0.filter (fun x => x.1 == "internal/strconv.powtab")
 rw [e1] at h1
 rw [e2] at h2
 rw [e3] at h3
 obtain ⟨a,b,c⟩:=info3_of h2
 exact ⟨cheats_of h1,pts_of h3,a,b,c⟩
end Go.Proofs.YteoalcmhdoopnaaGreatDoor
namespace Go.Proofs.YteoalcmhdoopnaaGreatDoor
open Go.RowKit
theorem plain_of {s:ByteArray} {neg:Bool} {c:UInt8} {l:List UInt8} (h:s.data.toList=(if neg then [45] else [])++c :: l) (hc:isD c=true):Plain s:=by
 obtain ⟨a,b,d⟩:=num_head h hc;exact ⟨a,b,d⟩
theorem numR_zero:numR false [48] 1 0=0:=by
 unfold numR;rw [if_pos (by decide +kernel)]
theorem parO_text {n:Nat} (hn:n<18446744073709551616) {s:ByteArray} (hs:s.data.toList=Bz n):ParO s (some (B3 n)):=by
 cases hnan:nanF n with
 | true=>
   rw [Gr hnan] at hs;rw [Fu hs,(Dz n).2 hnan];exact .nan
 | false=>
   have hc:B3 n=n:=by unfold B3;rw [hnan];rfl
   rw [realL_bare hnan] at hs;have hsp:n=sgB (decide (9223372036854775808<=n))+n % 9223372036854775808:=word_split n hn;obtain ⟨sg,hsg⟩:∃sg,sg=decide (9223372036854775808<=n):=⟨_,rfl⟩;obtain ⟨r,hr⟩:∃r,r=n % 9223372036854775808:=⟨_,rfl⟩;have hr9:r<=9218868437227405312:=by
     unfold nanF at hnan;have:=of_decide_eq_false hnan;omega
   rw [<-hsg,<-hr] at hsp hs;rw [hc,hsp];clear hc hnan hsg hsp hr;rcases Nat.eq_or_lt_of_le hr9 with h | h
   · subst h
     have hb:Dj 9218868437227405312=[105,110,102]:=by unfold Dj;rw [if_pos rfl]
     rw [hb] at hs;rw [Fu hs];cases sg
     · exact .inf
     · exact .minf
   · rcases Nat.eq_zero_or_pos r with h0 | h0
     · subst h0
       rw [bare_zero] at hs;have hd0:Lib.decDigits 0=[48]:=by decide +kernel
       have hf:=whole_form (s:=s) (neg:=sg) (n:=0) (by rw [hs,hd0]) (by decide +kernel);rw [hd0,show Lib.nDigits 0=1 by decide +kernel] at hf;have hz:s.size<=64:=by rw [Ad,hs];cases sg<;>simp [At]
       have hrt:A0 s.data.toList=true:=by
         rw [hs];cases sg<;>decide +kernel
       have hp:Plain s:=plain_of (neg:=sg) (c:=48) (l:=[]) (by rw [hs];rfl) (by decide);have:=ParO.num hp hz hrt hf (by rw [numR_zero];decide);rw [numR_zero] at this;exact this
     · obtain ⟨hz,d,L,m,x,hR⟩:=text_reads h0 h hs
       obtain ⟨c,l,h1,hc⟩:=hR.head;have hnum:numR d L m x=r:=by
         obtain ⟨R,hI,hPn⟩:=Di hR.pos hR.lt (p:=expF d L m x) (by have:=hR.low;omega) (by have:=hR.high;omega);have hRr:R=r:=hI.uniq (Nat.pow_pos (by decide)) hR.near;unfold numR;have hlow:=hR.low;have hhigh:=hR.high;have hpos:=hR.pos;rw [if_neg (by omega),if_neg (by omega),if_neg (by omega),if_neg (by rw [hR.whole];decide),hPn,hRr,Nat.min_eq_left (Nat.le_of_lt h)]
       have:=ParO.num (plain_of h1 hc) (by omega) hR.right hR.txt (by rw [hnum];omega);rw [hnum] at this;exact this
theorem sum_bad {a b:Nat} (hb:b<18446744073709551616) (ha9:a<18446744073709551616) (ha:badF a=false) (h:badF b=true):badF (sumV a b)=true:=by
 have hadd:floatBits .add .f64 a b=((Ieee.double.read a).sum (Ieee.double.read b)).map Ieee.double.write:=rfl;unfold badF at ha h;rw [Bool.or_eq_false_iff] at ha;rw [Bool.or_eq_true] at h;rcases h with h | h
 · obtain ⟨s,t,e⟩:=read_nan (n:=b) (of_decide_eq_true h)
   have:floatBits .add .f64 a b=none:=by rw [hadd,e];cases Ieee.double.read a<;>rfl
   unfold sumV;rw [this];exact bad_nan
 · have e:=Ep (of_decide_eq_true h)
   have na:=of_decide_eq_false ha.1;have ia:=of_decide_eq_false ha.2;obtain ⟨m,p,e2,_⟩:=B5 (n:=a) (by omega);have:floatBits .add .f64 a b=some (Ieee.double.write (.infinity (negF b))):=by rw [hadd,e,e2];rfl
   unfold sumV;rw [this];cases negF b<;>decide +kernel
set_option maxRecDepth 100000 in
set_option maxHeartbeats 3200000 in
theorem iadd_hashF (t:ByteArray) (a:Option Addr) (n cap:Nat) (fs:List Fld) (v:Int) (w:World) (hr:RF w a n cap fs) (hn:n<=100000) :
   Calls Tryz.prog 10 #[.agg #[.int .i64 2,.string t,.slice a n cap],.int .i64 v] w fun e w' => ∃(a' : Option Addr) (cap' : Nat),e=.returned (.tuple #[.agg #[.int .i64 2,.string t,.slice a' n cap'],.int .i64 0,.int .i64 91])/\RF w' a' n cap' fs/\Below w.heap.size w w' := by
 obtain ⟨k,hk⟩:∃k:Int,k=2:=⟨2,rfl⟩
 rw [<-hk]
 obtain ⟨W2,hW2⟩:∃W2,W2=(w.alloc (.cells #[.int .i64 k,.string t,.slice a n cap] 24)).alloc (.cells #[.int .i64 0,.string ⟨#[]⟩,.slice none 0 0] 24):=⟨_,rfl⟩
 have hb2:Below w.heap.size w W2:=by rw [hW2];exact ((Below.refl _ _).alloc (Nat.le_refl _) _).alloc (by simp) _
 have hs2:W2.heap.size=w.heap.size+2:=by rw [hW2];simp
 have hB:∀q u,#[.int .i64 k,.string t,.slice a n cap][q]?=some u->W2.cell? ⟨w.heap.size,q,none⟩=some u:=fun q u h=>by rw [hW2,World.cell?_alloc_past _ _ _ (by simp),World.cell?_alloc_new];exact h
 have hC:∀q u,#[.int .i64 0,.string ⟨#[]⟩,.slice none 0 0][q]?=some u->W2.cell? ⟨w.heap.size+1,q,none⟩=some u:=fun q u h=>by
   rw [hW2,show w.heap.size+1=(w.alloc (.cells #[.int .i64 k,.string t,.slice a n cap] 24)).heap.size by simp,World.cell?_alloc_new];exact h
 have hfC:Blk W2 (w.heap.size+1):=by rw [hW2,show w.heap.size+1=(w.alloc (.cells #[.int .i64 k,.string t,.slice a n cap] 24)).heap.size by simp];exact Blk.new _ _ _
 have g0:W2.cell? ⟨w.heap.size,0,none⟩=some (.int .i64 k):=hB 0 _ rfl
 have g1:W2.cell? ⟨w.heap.size,1,none⟩=some (.string t):=hB 1 _ rfl
 have g2:W2.cell? ⟨w.heap.size,2,none⟩=some (.slice a n cap):=hB 2 _ rfl
 have i0:W2.cell? ⟨w.heap.size+1,0,none⟩=some (.int .i64 0):=hC 0 _ rfl
 have i1:W2.cell? ⟨w.heap.size+1,1,none⟩=some (.string ⟨#[]⟩):=hC 1 _ rfl
 have i2:W2.cell? ⟨w.heap.size+1,2,none⟩=some (.slice none 0 0):=hC 2 _ rfl
 have y0:=hfC.frz 0 none
 have y1:=hfC.frz 1 none
 have y2:=hfC.frz 2 none
 replace hW2:=Hd hW2
 clear hB hC
 subst hk
 have hr2:=hr.below hb2
 replace hr2:=Hd hr2
 clear hr
 go_enter Tryz.func10,Tryz.ntmps10
 go_upto_region 2 with fail
 rw [<-hW2.out]
 go_wp2_with fail
 refine (icopy_any 2 t a n cap fs _ hr2.out hn).mono ?_
 rintro e w3 ⟨a3,c3,rfl,hown,hb3⟩
 replace g0:=Aa hb3 g0
 replace g1:=Aa hb3 g1
 replace g2:=Aa hb3 g2
 replace i0:=Aa hb3 i0
 replace i1:=Aa hb3 i1
 replace i2:=Aa hb3 i2
 replace hfC:=hfC.of_block (hb3.block _ hfC.lt)
 clear y0 y1 y2
 have y0:=hfC.frz 0 none
 have y1:=hfC.frz 1 none
 have y2:=hfC.frz 2 none
 have hbel:=hb2.trans (hb3.mono hb2.size)
 have hfin:=set3 hbel
 have hob:=Bw hown
 replace hob:=Hd hob
 replace hfin:=Hd hfin
 replace hown:=Hd hown
 go_wp2_with fail
 refine bodyPost_ret (v:=.tuple #[.agg #[.int .i64 2,.string t,.slice a3 n c3],.int .i64 0,.int .i64 91]) (by simp [results,Tryz.results10,go_sem,i0,i1,i2]) rfl ⟨a3,c3,rfl,?_,hfin.out _ _ _⟩
 exact RF.of_owns (owns_fr hown.out (fr3 w.heap.size _ _ _ _) (fun q hq=>by have h1:=(hob.out q hq).1;show ¬(q=w.heap.size+1);have:=hs2;omega))
set_option maxRecDepth 100000 in
set_option maxHeartbeats 3200000 in
theorem areal_hash (t:ByteArray) (a:Option Addr) (n cap:Nat) (fs:List Fld) (y:Nat) (w:World) (hr:RF w a n cap fs) (hn:n<=100000) :
   Calls Tryz.prog 12 #[.agg #[.int .i64 2,.string t,.slice a n cap],.float .f64 y] w fun e w' => ∃(a' : Option Addr) (cap' : Nat),e=.returned (.tuple #[.agg #[.int .i64 2,.string t,.slice a' n cap'],.string ⟨#[]⟩,.int .i64 91])/\RF w' a' n cap' fs/\Below w.heap.size w w' := by
 obtain ⟨k,hk⟩:∃k:Int,k=2:=⟨2,rfl⟩
 rw [<-hk]
 obtain ⟨W2,hW2⟩:∃W2,W2=(w.alloc (.cells #[.int .i64 k,.string t,.slice a n cap] 24)).alloc (.cells #[.int .i64 0,.string ⟨#[]⟩,.slice none 0 0] 24):=⟨_,rfl⟩
 have hb2:Below w.heap.size w W2:=by rw [hW2];exact ((Below.refl _ _).alloc (Nat.le_refl _) _).alloc (by simp) _
 have hs2:W2.heap.size=w.heap.size+2:=by rw [hW2];simp
 have hB:∀q u,#[.int .i64 k,.string t,.slice a n cap][q]?=some u->W2.cell? ⟨w.heap.size,q,none⟩=some u:=fun q u h=>by rw [hW2,World.cell?_alloc_past _ _ _ (by simp),World.cell?_alloc_new];exact h
 have hC:∀q u,#[.int .i64 0,.string ⟨#[]⟩,.slice none 0 0][q]?=some u->W2.cell? ⟨w.heap.size+1,q,none⟩=some u:=fun q u h=>by
   rw [hW2,show w.heap.size+1=(w.alloc (.cells #[.int .i64 k,.string t,.slice a n cap] 24)).heap.size by simp,World.cell?_alloc_new];exact h
 have hfC:Blk W2 (w.heap.size+1):=by rw [hW2,show w.heap.size+1=(w.alloc (.cells #[.int .i64 k,.string t,.slice a n cap] 24)).heap.size by simp];exact Blk.new _ _ _
 have g0:W2.cell? ⟨w.heap.size,0,none⟩=some (.int .i64 k):=hB 0 _ rfl
 have g1:W2.cell? ⟨w.heap.size,1,none⟩=some (.string t):=hB 1 _ rfl
 have g2:W2.cell? ⟨w.heap.size,2,none⟩=some (.slice a n cap):=hB 2 _ rfl
 have i0:W2.cell? ⟨w.heap.size+1,0,none⟩=some (.int .i64 0):=hC 0 _ rfl
 have i1:W2.cell? ⟨w.heap.size+1,1,none⟩=some (.string ⟨#[]⟩):=hC 1 _ rfl
 have i2:W2.cell? ⟨w.heap.size+1,2,none⟩=some (.slice none 0 0):=hC 2 _ rfl
 have y0:=hfC.frz 0 none
 have y1:=hfC.frz 1 none
 have y2:=hfC.frz 2 none
 replace hW2:=Hd hW2
 clear hB hC
 subst hk
 have hr2:=hr.below hb2
 replace hr2:=Hd hr2
 clear hr
 go_enter Tryz.func12,Tryz.ntmps12
 go_upto_region 2 with fail
 rw [<-hW2.out]
 go_wp2_with fail
 refine (icopy_any 2 t a n cap fs _ hr2.out hn).mono ?_
 rintro e w3 ⟨a3,c3,rfl,hown,hb3⟩
 replace g0:=Aa hb3 g0
 replace g1:=Aa hb3 g1
 replace g2:=Aa hb3 g2
 replace i0:=Aa hb3 i0
 replace i1:=Aa hb3 i1
 replace i2:=Aa hb3 i2
 replace hfC:=hfC.of_block (hb3.block _ hfC.lt)
 clear y0 y1 y2
 have y0:=hfC.frz 0 none
 have y1:=hfC.frz 1 none
 have y2:=hfC.frz 2 none
 have hbel:=hb2.trans (hb3.mono hb2.size)
 have hfin:=set3 hbel
 have hob:=Bw hown
 replace hob:=Hd hob
 replace hfin:=Hd hfin
 replace hown:=Hd hown
 go_wp2_with fail
 refine bodyPost_ret (v:=.tuple #[.agg #[.int .i64 2,.string t,.slice a3 n c3],.string ⟨#[]⟩,.int .i64 91]) (by simp [results,Tryz.results12,go_sem,i0,i1,i2]) rfl ⟨a3,c3,rfl,?_,hfin.out _ _ _⟩
 exact RF.of_owns (owns_fr hown.out (fr3 w.heap.size _ _ _ _) (fun q hq=>by have h1:=(hob.out q hq).1;show ¬(q=w.heap.size+1);have:=hs2;omega))
set_option maxRecDepth 100000 in
set_option maxHeartbeats 3200000 in
theorem iadd_noneF (t:ByteArray) (a:Option Addr) (n cap:Nat) (v:Int) (w:World) (hw:wP t.data.toList=none) (ht:t.size<=1000000) (hN:Nums w) :
   Calls Tryz.prog 10 #[.agg #[.int .i64 1,.string t,.slice a n cap],.int .i64 v] w fun e w' => e=.returned (.tuple #[.agg #[.int .i64 1,.string t,.slice a n cap],.int .i64 0,.int .i64 92])/\Below w.heap.size w w' := by
 obtain ⟨k,hk⟩:∃k:Int,k=1:=⟨1,rfl⟩
 rw [<-hk]
 obtain ⟨W2,hW2⟩:∃W2,W2=(w.alloc (.cells #[.int .i64 k,.string t,.slice a n cap] 24)).alloc (.cells #[.int .i64 0,.string ⟨#[]⟩,.slice none 0 0] 24):=⟨_,rfl⟩
 have hb2:Below w.heap.size w W2:=by rw [hW2];exact ((Below.refl _ _).alloc (Nat.le_refl _) _).alloc (by simp) _
 have hs2:W2.heap.size=w.heap.size+2:=by rw [hW2];simp
 have hB:∀q u,#[.int .i64 k,.string t,.slice a n cap][q]?=some u->W2.cell? ⟨w.heap.size,q,none⟩=some u:=fun q u h=>by rw [hW2,World.cell?_alloc_past _ _ _ (by simp),World.cell?_alloc_new];exact h
 have hC:∀q u,#[.int .i64 0,.string ⟨#[]⟩,.slice none 0 0][q]?=some u->W2.cell? ⟨w.heap.size+1,q,none⟩=some u:=fun q u h=>by
   rw [hW2,show w.heap.size+1=(w.alloc (.cells #[.int .i64 k,.string t,.slice a n cap] 24)).heap.size by simp,World.cell?_alloc_new];exact h
 have hfC:Blk W2 (w.heap.size+1):=by rw [hW2,show w.heap.size+1=(w.alloc (.cells #[.int .i64 k,.string t,.slice a n cap] 24)).heap.size by simp];exact Blk.new _ _ _
 have g0:W2.cell? ⟨w.heap.size,0,none⟩=some (.int .i64 k):=hB 0 _ rfl
 have g1:W2.cell? ⟨w.heap.size,1,none⟩=some (.string t):=hB 1 _ rfl
 have g2:W2.cell? ⟨w.heap.size,2,none⟩=some (.slice a n cap):=hB 2 _ rfl
 have i0:W2.cell? ⟨w.heap.size+1,0,none⟩=some (.int .i64 0):=hC 0 _ rfl
 have i1:W2.cell? ⟨w.heap.size+1,1,none⟩=some (.string ⟨#[]⟩):=hC 1 _ rfl
 have i2:W2.cell? ⟨w.heap.size+1,2,none⟩=some (.slice none 0 0):=hC 2 _ rfl
 have y0:=hfC.frz 0 none
 have y1:=hfC.frz 1 none
 have y2:=hfC.frz 2 none
 replace hW2:=Hd hW2
 clear hB hC
 subst hk
 have hN2:=hN.below hb2
 replace hN2:=Hd hN2
 have hpar:∀W,Nums W->Calls Tryz.prog 23 #[.string t] W fun e w' => e=.returned (.tuple #[.int .i64 0,.int .i64 11])/\Below W.heap.size W w' := fun W h=>(D7 t (by omega) W h).mono fun e w' ⟨he,hb⟩=>⟨by rw [hw] at he;exact he,hb⟩
 replace hpar:=Hd hpar
 clear hN hw
 go_enter Tryz.func10,Tryz.ntmps10
 go_upto_region 2 with fail
 rw [<-hW2.out]
 go_wp2_with fail
 refine (hpar.out _ hN2.out).mono ?_
 rintro e w3 ⟨rfl,hb3⟩
 replace g0:=Aa hb3 g0
 replace g1:=Aa hb3 g1
 replace g2:=Aa hb3 g2
 replace i0:=Aa hb3 i0
 replace i1:=Aa hb3 i1
 replace i2:=Aa hb3 i2
 replace hfC:=hfC.of_block (hb3.block _ hfC.lt)
 clear y0 y1 y2
 have y0:=hfC.frz 0 none
 have y1:=hfC.frz 1 none
 have y2:=hfC.frz 2 none
 have hbel:=hb2.trans (hb3.mono hb2.size)
 have hfin:=set3 hbel
 replace hfin:=Hd hfin
 go_wp2_with fail
 refine bodyPost_ret (v:=.tuple #[.agg #[.int .i64 1,.string t,.slice a n cap],.int .i64 0,.int .i64 92]) (by simp [results,Tryz.results10,go_sem,i0,i1,i2]) rfl ⟨rfl,hfin.out _ _ _⟩
set_option maxRecDepth 100000 in
set_option maxHeartbeats 3200000 in
theorem iadd_overF (k:Int) (t:ByteArray) (a:Option Addr) (n cap:Nat) (v was:Int) (w:World) (hk:k≠2) (hw:wasZ k t=some was) (hv:Am v) (hs:¬Am (was+v)) (ht:t.size<=1000000) (hN:Nums w) :
   Calls Tryz.prog 10 #[.agg #[.int .i64 k,.string t,.slice a n cap],.int .i64 v] w fun e w' => e=.returned (.tuple #[.agg #[.int .i64 k,.string t,.slice a n cap],.int .i64 0,.int .i64 12])/\Below w.heap.size w w' := by
 have hwf:Am was:=by
   unfold wasZ at hw;split at hw
   · exact (wP_iff.1 hw).1
   · simp only [Option.some.injEq] at hw;subst hw;exact ⟨by omega,by omega⟩
 have hk2:(k == 2)=false:=by simpa using hk
 obtain ⟨W2,hW2⟩:∃W2,W2=(w.alloc (.cells #[.int .i64 k,.string t,.slice a n cap] 24)).alloc (.cells #[.int .i64 0,.string ⟨#[]⟩,.slice none 0 0] 24):=⟨_,rfl⟩
 have hb2:Below w.heap.size w W2:=by rw [hW2];exact ((Below.refl _ _).alloc (Nat.le_refl _) _).alloc (by simp) _
 have hs2:W2.heap.size=w.heap.size+2:=by rw [hW2];simp
 have hB:∀q u,#[.int .i64 k,.string t,.slice a n cap][q]?=some u->W2.cell? ⟨w.heap.size,q,none⟩=some u:=fun q u h=>by rw [hW2,World.cell?_alloc_past _ _ _ (by simp),World.cell?_alloc_new];exact h
 have hC:∀q u,#[.int .i64 0,.string ⟨#[]⟩,.slice none 0 0][q]?=some u->W2.cell? ⟨w.heap.size+1,q,none⟩=some u:=fun q u h=>by
   rw [hW2,show w.heap.size+1=(w.alloc (.cells #[.int .i64 k,.string t,.slice a n cap] 24)).heap.size by simp,World.cell?_alloc_new];exact h
 have hfC:Blk W2 (w.heap.size+1):=by rw [hW2,show w.heap.size+1=(w.alloc (.cells #[.int .i64 k,.string t,.slice a n cap] 24)).heap.size by simp];exact Blk.new _ _ _
 have g0:W2.cell? ⟨w.heap.size,0,none⟩=some (.int .i64 k):=hB 0 _ rfl
 have g1:W2.cell? ⟨w.heap.size,1,none⟩=some (.string t):=hB 1 _ rfl
 have g2:W2.cell? ⟨w.heap.size,2,none⟩=some (.slice a n cap):=hB 2 _ rfl
 have i0:W2.cell? ⟨w.heap.size+1,0,none⟩=some (.int .i64 0):=hC 0 _ rfl
 have i1:W2.cell? ⟨w.heap.size+1,1,none⟩=some (.string ⟨#[]⟩):=hC 1 _ rfl
 have i2:W2.cell? ⟨w.heap.size+1,2,none⟩=some (.slice none 0 0):=hC 2 _ rfl
 have y0:=hfC.frz 0 none
 have y1:=hfC.frz 1 none
 have y2:=hfC.frz 2 none
 replace hW2:=Hd hW2
 clear hB hC
 have hN2:=hN.below hb2
 replace hN2:=Hd hN2
 have hadd:∀W,Calls Tryz.prog 24 #[.int .i64 was,.int .i64 v] W fun e w' => e=.returned (.tuple #[.int .i64 0,.int .i64 12])/\Below W.heap.size W w' := fun W=>wadd_out was v hwf hv hs W
 replace hadd:=Hd hadd
 clear hN hwf hv hs
 by_cases k1:k=1
 · subst k1
   have hw' : wP t.data.toList=some was:=hw;have hpar:∀W,Nums W->Calls Tryz.prog 23 #[.string t] W fun e w' => e=.returned (.tuple #[.int .i64 was,.int .i64 0])/\Below W.heap.size W w' := fun W h=>(D7 t (by omega) W h).mono fun e w' ⟨he,hb⟩=>⟨by rw [hw'] at he;exact he,hb⟩;replace hpar:=Hd hpar;clear hw hw'
   go_enter Tryz.func10,Tryz.ntmps10
   go_upto_region 2 with fail
   rw [<-hW2.out];go_wp2_with fail
   refine (hpar.out _ hN2.out).mono ?_;rintro e w3 ⟨rfl,hb3⟩;replace g0:=Aa hb3 g0;replace g1:=Aa hb3 g1;replace g2:=Aa hb3 g2;replace i0:=Aa hb3 i0;replace i1:=Aa hb3 i1;replace i2:=Aa hb3 i2;replace hfC:=hfC.of_block (hb3.block _ hfC.lt);clear y0 y1 y2;have y0:=hfC.frz 0 none;have y1:=hfC.frz 1 none;have y2:=hfC.frz 2 none;have hbel:=hb2.trans (hb3.mono hb2.size);go_wp2_with fail
   refine (hadd.out _).mono ?_;rintro e w4 ⟨rfl,hb4⟩;replace g0:=Aa hb4 g0;replace g1:=Aa hb4 g1;replace g2:=Aa hb4 g2;replace i0:=Aa hb4 i0;replace i1:=Aa hb4 i1;replace i2:=Aa hb4 i2;replace hfC:=hfC.of_block (hb4.block _ hfC.lt);clear y0 y1 y2;have y0:=hfC.frz 0 none;have y1:=hfC.frz 1 none;have y2:=hfC.frz 2 none;have hbel:=hbel.trans (hb4.mono hbel.size);have hfin:=set3 hbel;replace hfin:=Hd hfin;go_wp2_with fail
   refine bodyPost_ret (v:=.tuple #[.agg #[.int .i64 1,.string t,.slice a n cap],.int .i64 0,.int .i64 12]) (by simp [results,Tryz.results10,go_sem,i0,i1,i2]) rfl ⟨rfl,hfin.out _ _ _⟩
 · have k1' : (k == 1)=false:=by simpa using k1
   obtain rfl:was=0:=by unfold wasZ at hw;rw [if_neg k1] at hw;simpa using hw.symm
   clear hw k1
   go_enter Tryz.func10,Tryz.ntmps10
   go_upto_region 2 with fail
   rw [<-hW2.out];have hbel:=hb2;go_wp2_with fail
   refine (hadd.out _).mono ?_;rintro e w4 ⟨rfl,hb4⟩;replace g0:=Aa hb4 g0;replace g1:=Aa hb4 g1;replace g2:=Aa hb4 g2;replace i0:=Aa hb4 i0;replace i1:=Aa hb4 i1;replace i2:=Aa hb4 i2;replace hfC:=hfC.of_block (hb4.block _ hfC.lt);clear y0 y1 y2;have y0:=hfC.frz 0 none;have y1:=hfC.frz 1 none;have y2:=hfC.frz 2 none;have hbel:=hbel.trans (hb4.mono hbel.size);have hfin:=set3 hbel;replace hfin:=Hd hfin;go_wp2_with fail
   refine bodyPost_ret (v:=.tuple #[.agg #[.int .i64 k,.string t,.slice a n cap],.int .i64 0,.int .i64 12]) (by simp [results,Tryz.results10,go_sem,i0,i1,i2]) rfl ⟨rfl,hfin.out _ _ _⟩
inductive AddR (t:ByteArray) (fs:List Fld) (v:Int):Int->Int->ByteArray->List Fld->Int->Int->Prop
 | hash:AddR t fs v 2 2 t fs 0 91
 | none:wP t.data.toList=none->AddR t fs v 1 1 t fs 0 92
 | over {k was:Int}:k≠2->wasZ k t=some was->¬Am (was+v)->AddR t fs v k k t fs 0 12
 | sum {k was:Int}:k≠2->wasZ k t=some was->Am (was+v)->AddR t fs v k 1 (sumT (was+v)) [] (was+v) 0
theorem addR_ex (t:ByteArray) (fs:List Fld) (v:Int) {k:Int} (hk:k=0\/k=1\/k=2):∃k1 t1 fs1 x e,AddR t fs v k k1 t1 fs1 x e:=by
 by_cases h2:k=2
 · subst h2;exact ⟨_,_,_,_,_,.hash⟩
 · cases hw:wasZ k t with
   | none=>
     by_cases h1:k=1
     · subst h1;exact ⟨_,_,_,_,_,.none hw⟩
     · unfold wasZ at hw;rw [if_neg h1] at hw;cases hw
   | some was=>
     by_cases hs:Am (was+v)
     · exact ⟨_,_,_,_,_,.sum h2 hw hs⟩
     · exact ⟨_,_,_,_,_,.over h2 hw hs⟩
def WasP (k:Int) (t:ByteArray) (r:Nat):Prop:=(k=0/\r=0)\/(k=1/\ParO t (some r))
inductive AddQ (t:ByteArray) (fs:List Fld) (y:Nat):Int->Int->ByteArray->List Fld->ByteArray->Int->Prop
 | hash:AddQ t fs y 2 2 t fs ⟨#[]⟩ 91
 | none:ParO t none->AddQ t fs y 1 1 t fs ⟨#[]⟩ 93
 | wild {r:Nat}:ParO t (some r)->badF r=true->AddQ t fs y 1 1 t fs ⟨#[]⟩ 93
 | over {k:Int} {r:Nat}:WasP k t r->badF r=false->badF (sumV r y)=true->AddQ t fs y k k t fs ⟨#[]⟩ 21
 | sum {k:Int} {r:Nat}:WasP k t r->badF r=false->badF (sumV r y)=false->AddQ t fs y k 1 ⟨(Bz (sumV r y)).toArray⟩ [] ⟨(Bz (sumV r y)).toArray⟩ 0
theorem Ee {k:Int} {t:ByteArray} {r:Nat} (h:WasP k t r):r<18446744073709551616:=by
 rcases h with ⟨_,rfl⟩ | ⟨_,h⟩
 · decide
 · exact parO_lt h r rfl
theorem addQ_ex (t:ByteArray) (fs:List Fld) (y:Nat) {k:Int} (hk:k=0\/k=1\/k=2):∃k1 t1 fs1 x e,AddQ t fs y k k1 t1 fs1 x e:=by
 have key:∀r,WasP k t r->badF r=false->∃k1 t1 fs1 x e,AddQ t fs y k k1 t1 fs1 x e:=fun r hw hb=>by
   cases hs:badF (sumV r y) with
   | true=>exact ⟨_,_,_,_,_,.over hw hb hs⟩
   | false=>exact ⟨_,_,_,_,_,.sum hw hb hs⟩
 rcases hk with rfl | rfl | rfl
 · exact key 0 (.inl ⟨rfl,rfl⟩) (by decide +kernel)
 · obtain ⟨o,ho⟩:=parO_ex t
   cases o with
   | none=>exact ⟨_,_,_,_,_,.none ho⟩
   | some r=>
     cases hb:badF r with
     | true=>exact ⟨_,_,_,_,_,.wild ho hb⟩
     | false=>exact key r (.inr ⟨rfl,ho⟩) hb
 · exact ⟨_,_,_,_,_,.hash⟩
theorem iadd_all {k:Int} {t:ByteArray} {a:Option Addr} {n cap:Nat} {fs:List Fld} {v:Int} {w:World} (hr:RF w a n cap fs) (hn:n<=1000) (ht:t.size<=5000) (hv:Am v) (hN:Nums w) {k1:Int} {t1:ByteArray} {fs1:List Fld} {x e1:Int} (h:AddR t fs v k k1 t1 fs1 x e1) :
   Calls Tryz.prog 10 #[.agg #[.int .i64 k,.string t,.slice a n cap],.int .i64 v] w fun e w' => ∃(a' : Option Addr) (n' cap' : Nat),e=.returned (.tuple #[.agg #[.int .i64 k1,.string t1,.slice a' n' cap'],.int .i64 x,.int .i64 e1])/\RF w' a' n' cap' fs1/\n' <= 1000/\Below w.heap.size w w' := by
 cases h with
 | hash=>exact (iadd_hashF t a n cap fs v w hr (by omega)).mono fun e w' ⟨a', c', h1,h2,h3⟩=>⟨a', n,c', h1,h2,hn,h3⟩
 | none hw=>exact (iadd_noneF t a n cap v w hw (by omega) hN).mono fun e w' ⟨h1,h3⟩=>⟨a,n,cap,h1,hr.below h3,hn,h3⟩
 | over h2 hw hs=>exact (iadd_overF k t a n cap v _ w h2 hw hv hs (by omega) hN).mono fun e w' ⟨h1,h3⟩=>⟨a,n,cap,h1,hr.below h3,hn,h3⟩
 | sum h2 hw hs=>exact (iadd_in k t a n cap v _ w h2 hw hv hs (by omega) hN).mono fun e w' ⟨h1,h3⟩=>⟨none,0,0,h1,Reads.nil _ _ _ _,by omega,h3⟩
theorem areal_all {k:Int} {t:ByteArray} {a:Option Addr} {n cap:Nat} {fs:List Fld} {y:Nat} {w:World} (hr:RF w a n cap fs) (hn:n<=1000) (hy:y<18446744073709551616) (hY:Lay w) (hF:Flo w) {k1:Int} {t1:ByteArray} {fs1:List Fld} {x:ByteArray} {e1:Int} (h:AddQ t fs y k k1 t1 fs1 x e1) :
   Calls Tryz.prog 12 #[.agg #[.int .i64 k,.string t,.slice a n cap],.float .f64 y] w fun e w' => ∃(a' : Option Addr) (n' cap' : Nat),e=.returned (.tuple #[.agg #[.int .i64 k1,.string t1,.slice a' n' cap'],.string x,.int .i64 e1])/\RF w' a' n' cap' fs1/\n' <= 1000/\Below w.heap.size w w' := by
 have key:∀{r:Nat},WasP k t r->Was k t r w:=fun {r} hw=>by
   rcases hw with hw | ⟨hk,ho⟩
   · exact .inl hw
   · exact .inr ⟨hk,fun W hW=>real_all ho (hY.below hW)⟩
 cases h with
 | hash=>exact (areal_hash t a n cap fs y w hr (by omega)).mono fun e w' ⟨a', c', h1,h2,h3⟩=>⟨a', n,c', h1,h2,hn,h3⟩
 | none ho=>exact (areal_none t a n cap y w (fun W hW=>real_all ho (hY.below hW))).mono fun e w' ⟨h1,h3⟩=>⟨a,n,cap,h1,hr.below h3,hn,h3⟩
 | wild ho hb=>exact (areal_wild t a n cap _ y w (parO_lt ho _ rfl) hb (fun W hW=>real_all ho (hY.below hW))).mono fun e w' ⟨h1,h3⟩=>⟨a,n,cap,h1,hr.below h3,hn,h3⟩
 | over hw hb hs=>
   have hkw:=key hw;cases hf:badF y with
   | true=>exact (areal_f k t a n cap _ y w (Ee hw) hy hb hf hkw).mono fun e w' ⟨h1,h3⟩=>⟨a,n,cap,h1,hr.below h3,hn,h3⟩
   | false=>exact (areal_over k t a n cap _ y w (Ee hw) hy hb hf hs hkw).mono fun e w' ⟨h1,h3⟩=>⟨a,n,cap,h1,hr.below h3,hn,h3⟩
 | sum hw hb hs=>
   have hf:badF y=false:=by
     cases hf:badF y with
     | false=>rfl
     | true=>rw [sum_bad hy (Ee hw) hb hf] at hs;cases hs
   exact (areal_sum k t a n cap _ y w (Ee hw) hy hb hf hs (key hw) hF).mono fun e w' ⟨h1,h3⟩=>⟨none,0,0,h1,Reads.nil _ _ _ _,by omega,h3⟩
theorem bne_nat (c m:Nat):((c:Int) != (m:Int))=!decide (c=m):=by
 by_cases h:c=m
 · subst h;simp
 · rw [decide_eq_false h]
   have h1:((c:Int) == (m:Int))=false:=by rw [beq_eq_false_iff_ne];omega
   unfold bne;rw [h1]
theorem bad_three {r:Nat} (h:r<18446744073709551616):badF r=!((!decide (B3 r=9221120237041090561)) && (!decide (B3 r=9218868437227405312)) && (!decide (B3 r=18442240474082181120))):=by
 cases hn:nanF r with
 | true=>
   have hb:badF r=true:=by unfold badF;rw [hn];rfl
   rw [hb,(Dz r).2 hn];decide
 | false=>
   have hcr:B3 r=r:=by unfold B3;rw [hn];rfl
   have h1:r≠9221120237041090561:=fun h=>by rw [h] at hn;exact absurd hn (by decide +kernel)
   rw [hcr,decide_eq_false h1];unfold badF;rw [hn,Bool.false_or];by_cases a:r=9218868437227405312
   · subst a;decide
   · rw [decide_eq_false a]
     by_cases b:r=18442240474082181120
     · subst b;decide
     · rw [decide_eq_false b,decide_eq_false (by omega)];rfl
set_option maxRecDepth 100000 in
theorem Do {r:Nat} (h:r<18446744073709551616) (w:World):Calls Tryz.prog 34 #[.float .f64 r] w fun e w' => e=.returned (.bool (!badF r))/\Below w.heap.size w w' := by
 have h1:=Dr h;have hb:=bad_three h;obtain ⟨c,hc⟩:∃c,c=B3 r:=⟨_,rfl⟩;rw [<-hc] at h1 hb;have e1:=bne_nat c 9221120237041090561;have e2:=bne_nat c 9218868437227405312;have e3:=bne_nat c 18442240474082181120;rw [hb];replace h1:=Hd h1;clear hb hc h;generalize (!decide (c=9221120237041090561))=p1 at *;generalize (!decide (c=9218868437227405312))=p2 at *;generalize (!decide (c=18442240474082181120))=p3 at *;have e1' : ((c:Int) != 9221120237041090561)=p1:=e1;have e2' : ((c:Int) != 9218868437227405312)=p2:=e2;have e3' : ((c:Int) != 18442240474082181120)=p3:=e3;clear e1 e2 e3;cases p1<;>cases p2<;>cases p3
 all_goals
   go_enter Tryz.func34,Tryz.ntmps34
   go_wp2_with fail
   refine (h1.out _).mono ?_
   rintro e w' ⟨rfl,rfl⟩
   go_wp2
   go_ret
   exact ⟨rfl,Below.refl _ _⟩
theorem refadd_all (a b:Nat) (w:World):Calls Tryz.prog 35 #[.float .f64 a,.float .f64 b] w fun e w' => e=.returned (.tuple #[.float .f64 (if badF (sumV a b) then 0 else sumV a b),.int .i64 (if badF (sumV a b) then 21 else 0)])/\Below w.heap.size w w' := by
 obtain ⟨r,w1,hr,hl,hb,hc⟩:=add_run a b w;refine (refAdd_any hr hl).mono fun e w' ⟨h1,h2⟩=>⟨?_,by rw [h2];exact hb⟩;rcases hc with hc | ⟨hc,hn⟩
 · have:sumV a b=r:=by unfold sumV;rw [hc];rfl
   rw [this];exact h1
 · have e1:sumV a b=nanC:=by unfold sumV;rw [hc];rfl
   have e2:badF r=true:=by unfold badF;rw [hn];rfl
   rw [e1,bad_nan];rw [e2] at h1;exact h1
theorem parO_zero:ParO ⟨#[48]⟩ (some 0):=by
 have h:=parO_text (n:=0) (by decide) (s:=⟨#[48]⟩) (by decide +kernel);have e:B3 0=0:=by decide +kernel
 rw [e] at h;exact h
def txtK (k:Int) (t:ByteArray):ByteArray:=if k=0 then ⟨#[48]⟩ else t
theorem wasP_par {k:Int} {t:ByteArray} {r:Nat} (h:WasP k t r):ParO (txtK k t) (some r):=by
 rcases h with ⟨rfl,rfl⟩ | ⟨rfl,h⟩
 · exact parO_zero
 · exact h
set_option maxRecDepth 100000 in
set_option maxHeartbeats 3200000 in
theorem raddr_hash (k:Int) (hk:k=2) (t:ByteArray) (a:Option Addr) (n cap:Nat) (y:Nat) (w:World) :
   Calls Tryz.prog 13 #[.agg #[.int .i64 k,.string t,.slice a n cap],.float .f64 y] w fun e w' => e=.returned (.tuple #[.agg #[.int .i64 k,.string t,.slice a n cap],.string ⟨#[]⟩,.int .i64 91])/\Below w.heap.size w w' := by
 have hk2:(k == 2)=true:=by simpa using hk
 replace hk:=Hd hk
 obtain ⟨W2,hW2⟩:∃W2,W2=(w.alloc (.cells #[.int .i64 k,.string t,.slice a n cap] 24)).alloc (.cells #[.int .i64 0,.string ⟨#[]⟩,.slice none 0 0] 24):=⟨_,rfl⟩
 have hb2:Below w.heap.size w W2:=by rw [hW2];exact ((Below.refl _ _).alloc (Nat.le_refl _) _).alloc (by simp) _
 have hs2:W2.heap.size=w.heap.size+2:=by rw [hW2];simp
 have hB:∀q u,#[.int .i64 k,.string t,.slice a n cap][q]?=some u->W2.cell? ⟨w.heap.size,q,none⟩=some u:=fun q u h=>by rw [hW2,World.cell?_alloc_past _ _ _ (by simp),World.cell?_alloc_new];exact h
 have hC:∀q u,#[.int .i64 0,.string ⟨#[]⟩,.slice none 0 0][q]?=some u->W2.cell? ⟨w.heap.size+1,q,none⟩=some u:=fun q u h=>by
   rw [hW2,show w.heap.size+1=(w.alloc (.cells #[.int .i64 k,.string t,.slice a n cap] 24)).heap.size by simp,World.cell?_alloc_new];exact h
 have hfC:Blk W2 (w.heap.size+1):=by rw [hW2,show w.heap.size+1=(w.alloc (.cells #[.int .i64 k,.string t,.slice a n cap] 24)).heap.size by simp];exact Blk.new _ _ _
 have g0:W2.cell? ⟨w.heap.size,0,none⟩=some (.int .i64 k):=hB 0 _ rfl
 have g1:W2.cell? ⟨w.heap.size,1,none⟩=some (.string t):=hB 1 _ rfl
 have g2:W2.cell? ⟨w.heap.size,2,none⟩=some (.slice a n cap):=hB 2 _ rfl
 have i0:W2.cell? ⟨w.heap.size+1,0,none⟩=some (.int .i64 0):=hC 0 _ rfl
 have i1:W2.cell? ⟨w.heap.size+1,1,none⟩=some (.string ⟨#[]⟩):=hC 1 _ rfl
 have i2:W2.cell? ⟨w.heap.size+1,2,none⟩=some (.slice none 0 0):=hC 2 _ rfl
 have y0:=hfC.frz 0 none
 have y1:=hfC.frz 1 none
 have y2:=hfC.frz 2 none
 replace hW2:=Hd hW2
 clear hB hC
 go_enter Tryz.func13,Tryz.ntmps13
 go_upto_region 2 with fail
 rw [<-hW2.out]
 have hbel:=hb2
 have hfin:=set3 hbel
 replace hfin:=Hd hfin
 go_wp2_with fail
 refine bodyPost_ret (v:=.tuple #[.agg #[.int .i64 k,.string t,.slice a n cap],.string ⟨#[]⟩,.int .i64 91]) (by simp [results,Tryz.results13,go_sem,i0,i1,i2]) rfl ⟨rfl,hfin.out _ _ _⟩
theorem half_of (a:Int):∃q r:Int,a.tdiv 2=q/\a.tmod 2=r/\a=2 * q+r/\(0<=a->0<=q/\0<=r/\r<=1)/\(a<=0->q<=0/\-1<=r/\r<=0):=by
 rcases Int.le_total 0 a with h | h
 · refine ⟨a / 2,a % 2,Int.tdiv_eq_ediv_of_nonneg h,Int.tmod_eq_emod_of_nonneg h,by omega,fun _=>by omega,fun _=>by omega⟩
 · have h1:a.tdiv 2=-((-a) / 2):=by
     have:=Int.neg_tdiv (-a) 2;rw [Int.neg_neg] at this;rw [this,Int.tdiv_eq_ediv_of_nonneg (by omega)]
   have h2:a.tmod 2=-((-a) % 2):=by
     have:=Int.neg_tmod (-a) 2;rw [Int.neg_neg] at this;rw [this,Int.tmod_eq_emod_of_nonneg (by omega)]
   refine ⟨_,_,h1,h2,by omega,fun _=>by omega,fun _=>by omega⟩
set_option maxRecDepth 100000 in
set_option maxHeartbeats 1600000 in
theorem add01_any (a b:Int) (ha:Am a) (hb:Am b) (w:World):Calls Tryz.prog 28 #[.int .i64 a,.int .i64 b] w fun e w' => ((Am (a+b)/\e=.returned (.tuple #[.int .i64 (a+b),.int .i64 0]))\/(¬Am (a+b)/\e=.returned (.tuple #[.int .i64 0,.int .i64 12])))/\Below w.heap.size w w' := by
 obtain ⟨qa,ra,a1,a2,a3,a4,a5⟩:=half_of a;obtain ⟨qb,rb,b1,b2,b3,b4,b5⟩:=half_of b;obtain ⟨qs,rs,s1,s2,s3,s4,s5⟩:=half_of (ra+rb);unfold Am at ha hb;have k0:-4611686018427387905<=qa/\qa<=4611686018427387904/\-1<=ra/\ra<=1:=by
   rcases Int.le_total 0 a with h | h
   · have:=a4 h;omega
   · have:=a5 h;omega
 have k1:-4611686018427387905<=qb/\qb<=4611686018427387904/\-1<=rb/\rb<=1:=by
   rcases Int.le_total 0 b with h | h
   · have:=b4 h;omega
   · have:=b5 h;omega
 have k2:-2<=qs/\qs<=2/\-1<=rs/\rs<=1:=by
   rcases Int.le_total 0 (ra+rb) with h | h
   · have:=s4 h;omega
   · have:=s5 h;omega
 have w1:IntKind.i64.wrap qa=qa:=IntWalk.i64_in _ (by omega);have w2:IntKind.i64.wrap qb=qb:=IntWalk.i64_in _ (by omega);have w3:IntKind.i64.wrap (qa+qb)=qa+qb:=IntWalk.i64_in _ (by omega);have w4:IntKind.i64.wrap (ra+rb)=ra+rb:=IntWalk.i64_in _ (by omega);have w5:IntKind.i64.wrap qs=qs:=IntWalk.i64_in _ (by omega);obtain ⟨H,hH⟩:∃H,H=qa+qb+qs:=⟨_,rfl⟩;have w6:IntKind.i64.wrap (qa+qb+qs)=H:=by rw [hH];exact IntWalk.i64_in _ (by omega)
 have hsum:a+b=2 * H+rs:=by omega
 have hfit:Am (a+b) ↔ (H<=4611686018427387903/\-4611686018427387904<=H/\¬(H=-4611686018427387904/\rs<0)):=by
   unfold Am;rcases Int.le_total 0 a with h | h<;>rcases Int.le_total 0 b with h' | h' <;> rcases Int.le_total 0 (ra+rb) with h'' | h'' <;> simp only [h,h', h'', forall_const] at a4 a5 b4 b5 s4 s5<;>omega
 obtain ⟨S,hS⟩:∃S,S=a+b:=⟨_,rfl⟩;rw [<-hS] at hfit ⊢;rw [<-hS] at hsum;clear a3 a4 a5 b3 b4 b5 s3 s4 s5 k0 k1 ha hb hH hS;by_cases c1:4611686018427387903<H
 · have hp:¬Am S:=fun h=>by have:=hfit.1 h;omega
   replace hp:=Hd hp;clear hfit hsum k2
   go_enter Tryz.func28,Tryz.ntmps28
   go_wp2;refine bodyPost_ret (v:=.tuple #[.int .i64 0,.int .i64 12]) (by simp [results,Tryz.results28,go_sem]) rfl ⟨.inr ⟨hp.out,rfl⟩,Below.refl _ _⟩
 by_cases c2:H < -4611686018427387904
 · have hp:¬Am S:=fun h=>by have:=hfit.1 h;omega
   replace hp:=Hd hp;clear hfit hsum k2
   go_enter Tryz.func28,Tryz.ntmps28
   go_wp2;refine bodyPost_ret (v:=.tuple #[.int .i64 0,.int .i64 12]) (by simp [results,Tryz.results28,go_sem]) rfl ⟨.inr ⟨hp.out,rfl⟩,Below.refl _ _⟩
 by_cases c3:H=-4611686018427387904
 · have c3' : (H == -4611686018427387904)=true:=by rw [c3];rfl
   by_cases c4:rs<0
   · have hp:¬Am S:=fun h=>by have:=hfit.1 h;omega
     replace hp:=Hd hp;replace c3:=Hd c3;clear hfit hsum k2
     go_enter Tryz.func28,Tryz.ntmps28
     go_wp2;refine bodyPost_ret (v:=.tuple #[.int .i64 0,.int .i64 12]) (by simp [results,Tryz.results28,go_sem]) rfl ⟨.inr ⟨hp.out,rfl⟩,Below.refl _ _⟩
   · have hp:Am S:=hfit.2 ⟨by omega,by omega,by omega⟩
     have w7:IntKind.i64.wrap (2 * H)=2 * H:=IntWalk.i64_in _ (by omega);have w8:IntKind.i64.wrap (2 * H+rs)=S:=by rw [hsum];exact IntWalk.i64_in _ (by omega)
     replace hp:=Hd hp;replace c3:=Hd c3;clear hfit hsum k2
     go_enter Tryz.func28,Tryz.ntmps28
     go_wp2;refine bodyPost_ret (v:=.tuple #[.int .i64 S,.int .i64 0]) (by simp [results,Tryz.results28,go_sem]) rfl ⟨.inl ⟨hp.out,rfl⟩,Below.refl _ _⟩
 · have c3' : (H == -4611686018427387904)=false:=by rw [beq_eq_false_iff_ne];exact c3
   have hp:Am S:=hfit.2 ⟨by omega,by omega,fun h=>c3 h.1⟩;have w7:IntKind.i64.wrap (2 * H)=2 * H:=IntWalk.i64_in _ (by omega);have w8:IntKind.i64.wrap (2 * H+rs)=S:=by rw [hsum];exact IntWalk.i64_in _ (by omega)
   replace hp:=Hd hp;clear hfit hsum k2
   go_enter Tryz.func28,Tryz.ntmps28
   go_wp2;refine bodyPost_ret (v:=.tuple #[.int .i64 S,.int .i64 0]) (by simp [results,Tryz.results28,go_sem]) rfl ⟨.inl ⟨hp.out,rfl⟩,Below.refl _ _⟩
set_option maxRecDepth 100000 in
set_option maxHeartbeats 6400000 in
theorem raddr_none (k:Int) (hk:k=1) (t:ByteArray) (a:Option Addr) (n cap:Nat) (y:Nat) (w:World) (hpar:∀W,Below w.heap.size w W->Calls Tryz.prog 17 #[.string t] W fun e w' => e=ParA none/\Below W.heap.size W w') :
   Calls Tryz.prog 13 #[.agg #[.int .i64 k,.string t,.slice a n cap],.float .f64 y] w fun e w' => e=.returned (.tuple #[.agg #[.int .i64 k,.string t,.slice a n cap],.string ⟨#[]⟩,.int .i64 93])/\Below w.heap.size w w' := by
 have hk2:(k == 2)=false:=by rw [hk];rfl
 have hk0:(k == 0)=false:=by rw [hk];rfl
 replace hk:=Hd hk
 obtain ⟨W2,hW2⟩:∃W2,W2=(w.alloc (.cells #[.int .i64 k,.string t,.slice a n cap] 24)).alloc (.cells #[.int .i64 0,.string ⟨#[]⟩,.slice none 0 0] 24):=⟨_,rfl⟩
 have hb2:Below w.heap.size w W2:=by rw [hW2];exact ((Below.refl _ _).alloc (Nat.le_refl _) _).alloc (by simp) _
 have hs2:W2.heap.size=w.heap.size+2:=by rw [hW2];simp
 have hB:∀q u,#[.int .i64 k,.string t,.slice a n cap][q]?=some u->W2.cell? ⟨w.heap.size,q,none⟩=some u:=fun q u h=>by rw [hW2,World.cell?_alloc_past _ _ _ (by simp),World.cell?_alloc_new];exact h
 have hC:∀q u,#[.int .i64 0,.string ⟨#[]⟩,.slice none 0 0][q]?=some u->W2.cell? ⟨w.heap.size+1,q,none⟩=some u:=fun q u h=>by
   rw [hW2,show w.heap.size+1=(w.alloc (.cells #[.int .i64 k,.string t,.slice a n cap] 24)).heap.size by simp,World.cell?_alloc_new];exact h
 have hfC:Blk W2 (w.heap.size+1):=by rw [hW2,show w.heap.size+1=(w.alloc (.cells #[.int .i64 k,.string t,.slice a n cap] 24)).heap.size by simp];exact Blk.new _ _ _
 have g0:W2.cell? ⟨w.heap.size,0,none⟩=some (.int .i64 k):=hB 0 _ rfl
 have g1:W2.cell? ⟨w.heap.size,1,none⟩=some (.string t):=hB 1 _ rfl
 have g2:W2.cell? ⟨w.heap.size,2,none⟩=some (.slice a n cap):=hB 2 _ rfl
 have i0:W2.cell? ⟨w.heap.size+1,0,none⟩=some (.int .i64 0):=hC 0 _ rfl
 have i1:W2.cell? ⟨w.heap.size+1,1,none⟩=some (.string ⟨#[]⟩):=hC 1 _ rfl
 have i2:W2.cell? ⟨w.heap.size+1,2,none⟩=some (.slice none 0 0):=hC 2 _ rfl
 have y0:=hfC.frz 0 none
 have y1:=hfC.frz 1 none
 have y2:=hfC.frz 2 none
 replace hW2:=Hd hW2
 clear hB hC
 have hpw:=hpar W2 hb2
 unfold ParA at hpw
 replace hpw:=Hd hpw
 clear hpar
 go_enter Tryz.func13,Tryz.ntmps13
 go_upto_region 2 with fail
 rw [<-hW2.out]
 have hbel:=hb2
 go_wp2_with fail
 refine (hpw.out).mono ?_
 rintro e w4 ⟨rfl,hb4⟩
 replace g0:=Aa hb4 g0
 replace g1:=Aa hb4 g1
 replace g2:=Aa hb4 g2
 replace i0:=Aa hb4 i0
 replace i1:=Aa hb4 i1
 replace i2:=Aa hb4 i2
 replace hfC:=hfC.of_block (hb4.block _ hfC.lt)
 clear y0 y1 y2
 have y0:=hfC.frz 0 none
 have y1:=hfC.frz 1 none
 have y2:=hfC.frz 2 none
 have hbel:=hbel.trans (hb4.mono hbel.size)
 have hfin:=set3 hbel
 replace hfin:=Hd hfin
 go_wp2_with fail
 refine bodyPost_ret (v:=.tuple #[.agg #[.int .i64 k,.string t,.slice a n cap],.string ⟨#[]⟩,.int .i64 93]) (by simp [results,Tryz.results13,go_sem,i0,i1,i2]) rfl ⟨rfl,hfin.out _ _ _⟩
set_option maxRecDepth 100000 in
set_option maxHeartbeats 6400000 in
theorem raddr_wild (k:Int) (hk:k=1) (t:ByteArray) (a:Option Addr) (n cap:Nat) (r y:Nat) (w:World) (hr:r<18446744073709551616) (hb:badF r=true) (hpar:∀W,Below w.heap.size w W->Calls Tryz.prog 17 #[.string t] W fun e w' => e=ParA (some r)/\Below W.heap.size W w') :
   Calls Tryz.prog 13 #[.agg #[.int .i64 k,.string t,.slice a n cap],.float .f64 y] w fun e w' => e=.returned (.tuple #[.agg #[.int .i64 k,.string t,.slice a n cap],.string ⟨#[]⟩,.int .i64 93])/\Below w.heap.size w w' := by
 have hk2:(k == 2)=false:=by rw [hk];rfl
 have hk0:(k == 0)=false:=by rw [hk];rfl
 replace hk:=Hd hk
 obtain ⟨W2,hW2⟩:∃W2,W2=(w.alloc (.cells #[.int .i64 k,.string t,.slice a n cap] 24)).alloc (.cells #[.int .i64 0,.string ⟨#[]⟩,.slice none 0 0] 24):=⟨_,rfl⟩
 have hb2:Below w.heap.size w W2:=by rw [hW2];exact ((Below.refl _ _).alloc (Nat.le_refl _) _).alloc (by simp) _
 have hs2:W2.heap.size=w.heap.size+2:=by rw [hW2];simp
 have hB:∀q u,#[.int .i64 k,.string t,.slice a n cap][q]?=some u->W2.cell? ⟨w.heap.size,q,none⟩=some u:=fun q u h=>by rw [hW2,World.cell?_alloc_past _ _ _ (by simp),World.cell?_alloc_new];exact h
 have hC:∀q u,#[.int .i64 0,.string ⟨#[]⟩,.slice none 0 0][q]?=some u->W2.cell? ⟨w.heap.size+1,q,none⟩=some u:=fun q u h=>by
   rw [hW2,show w.heap.size+1=(w.alloc (.cells #[.int .i64 k,.string t,.slice a n cap] 24)).heap.size by simp,World.cell?_alloc_new];exact h
 have hfC:Blk W2 (w.heap.size+1):=by rw [hW2,show w.heap.size+1=(w.alloc (.cells #[.int .i64 k,.string t,.slice a n cap] 24)).heap.size by simp];exact Blk.new _ _ _
 have g0:W2.cell? ⟨w.heap.size,0,none⟩=some (.int .i64 k):=hB 0 _ rfl
 have g1:W2.cell? ⟨w.heap.size,1,none⟩=some (.string t):=hB 1 _ rfl
 have g2:W2.cell? ⟨w.heap.size,2,none⟩=some (.slice a n cap):=hB 2 _ rfl
 have i0:W2.cell? ⟨w.heap.size+1,0,none⟩=some (.int .i64 0):=hC 0 _ rfl
 have i1:W2.cell? ⟨w.heap.size+1,1,none⟩=some (.string ⟨#[]⟩):=hC 1 _ rfl
 have i2:W2.cell? ⟨w.heap.size+1,2,none⟩=some (.slice none 0 0):=hC 2 _ rfl
 have y0:=hfC.frz 0 none
 have y1:=hfC.frz 1 none
 have y2:=hfC.frz 2 none
 replace hW2:=Hd hW2
 clear hB hC
 have hcn:=Do hr
 rw [hb] at hcn
 have hpw:=hpar W2 hb2
 unfold ParA at hpw
 replace hpw:=Hd hpw
 replace hcn:=Hd hcn
 clear hpar hr hb
 go_enter Tryz.func13,Tryz.ntmps13
 go_upto_region 2 with fail
 rw [<-hW2.out]
 have hbel:=hb2
 go_wp2_with fail
 refine (hpw.out).mono ?_
 rintro e w4 ⟨rfl,hb4⟩
 replace g0:=Aa hb4 g0
 replace g1:=Aa hb4 g1
 replace g2:=Aa hb4 g2
 replace i0:=Aa hb4 i0
 replace i1:=Aa hb4 i1
 replace i2:=Aa hb4 i2
 replace hfC:=hfC.of_block (hb4.block _ hfC.lt)
 clear y0 y1 y2
 have y0:=hfC.frz 0 none
 have y1:=hfC.frz 1 none
 have y2:=hfC.frz 2 none
 have hbel:=hbel.trans (hb4.mono hbel.size)
 go_wp2_with fail
 refine ((hcn.out _)).mono ?_
 rintro e w4 ⟨rfl,hb4⟩
 replace g0:=Aa hb4 g0
 replace g1:=Aa hb4 g1
 replace g2:=Aa hb4 g2
 replace i0:=Aa hb4 i0
 replace i1:=Aa hb4 i1
 replace i2:=Aa hb4 i2
 replace hfC:=hfC.of_block (hb4.block _ hfC.lt)
 clear y0 y1 y2
 have y0:=hfC.frz 0 none
 have y1:=hfC.frz 1 none
 have y2:=hfC.frz 2 none
 have hbel:=hbel.trans (hb4.mono hbel.size)
 have hfin:=set3 hbel
 replace hfin:=Hd hfin
 go_wp2_with fail
 refine bodyPost_ret (v:=.tuple #[.agg #[.int .i64 k,.string t,.slice a n cap],.string ⟨#[]⟩,.int .i64 93]) (by simp [results,Tryz.results13,go_sem,i0,i1,i2]) rfl ⟨rfl,hfin.out _ _ _⟩
set_option maxRecDepth 100000 in
set_option maxHeartbeats 6400000 in
theorem raddr_over (k:Int) (hk2:(k == 2)=false) (t S:ByteArray) (hS:S=txtK k t) (a:Option Addr) (n cap:Nat) (r y:Nat) (w:World) (hr:r<18446744073709551616) (hb:badF r=false) (hs:badF (sumV r y)=true) (hpar:∀W,Below w.heap.size w W->Calls Tryz.prog 17 #[.string S] W fun e w' => e=ParA (some r)/\Below W.heap.size W w') :
   Calls Tryz.prog 13 #[.agg #[.int .i64 k,.string t,.slice a n cap],.float .f64 y] w fun e w' => e=.returned (.tuple #[.agg #[.int .i64 k,.string t,.slice a n cap],.string ⟨#[]⟩,.int .i64 21])/\Below w.heap.size w w' := by
 obtain ⟨W2,hW2⟩:∃W2,W2=(w.alloc (.cells #[.int .i64 k,.string t,.slice a n cap] 24)).alloc (.cells #[.int .i64 0,.string ⟨#[]⟩,.slice none 0 0] 24):=⟨_,rfl⟩
 have hb2:Below w.heap.size w W2:=by rw [hW2];exact ((Below.refl _ _).alloc (Nat.le_refl _) _).alloc (by simp) _
 have hs2:W2.heap.size=w.heap.size+2:=by rw [hW2];simp
 have hB:∀q u,#[.int .i64 k,.string t,.slice a n cap][q]?=some u->W2.cell? ⟨w.heap.size,q,none⟩=some u:=fun q u h=>by rw [hW2,World.cell?_alloc_past _ _ _ (by simp),World.cell?_alloc_new];exact h
 have hC:∀q u,#[.int .i64 0,.string ⟨#[]⟩,.slice none 0 0][q]?=some u->W2.cell? ⟨w.heap.size+1,q,none⟩=some u:=fun q u h=>by
   rw [hW2,show w.heap.size+1=(w.alloc (.cells #[.int .i64 k,.string t,.slice a n cap] 24)).heap.size by simp,World.cell?_alloc_new];exact h
 have hfC:Blk W2 (w.heap.size+1):=by rw [hW2,show w.heap.size+1=(w.alloc (.cells #[.int .i64 k,.string t,.slice a n cap] 24)).heap.size by simp];exact Blk.new _ _ _
 have g0:W2.cell? ⟨w.heap.size,0,none⟩=some (.int .i64 k):=hB 0 _ rfl
 have g1:W2.cell? ⟨w.heap.size,1,none⟩=some (.string t):=hB 1 _ rfl
 have g2:W2.cell? ⟨w.heap.size,2,none⟩=some (.slice a n cap):=hB 2 _ rfl
 have i0:W2.cell? ⟨w.heap.size+1,0,none⟩=some (.int .i64 0):=hC 0 _ rfl
 have i1:W2.cell? ⟨w.heap.size+1,1,none⟩=some (.string ⟨#[]⟩):=hC 1 _ rfl
 have i2:W2.cell? ⟨w.heap.size+1,2,none⟩=some (.slice none 0 0):=hC 2 _ rfl
 have y0:=hfC.frz 0 none
 have y1:=hfC.frz 1 none
 have y2:=hfC.frz 2 none
 replace hW2:=Hd hW2
 clear hB hC
 have hcn:=Do hr
 rw [hb] at hcn
 have had:=fun W=>refadd_all r y W
 rw [hs] at had
 simp only [if_true] at had
 have hpw:=hpar W2 hb2
 unfold ParA at hpw
 replace had:=Hd had
 replace hcn:=Hd hcn
 clear hpar hr hb hs
 by_cases k0:k=0
 · have hk0:(k == 0)=true:=by rw [k0];rfl
   unfold txtK at hS;rw [if_pos k0] at hS;subst hS;replace hpw:=Hd hpw;replace k0:=Hd k0
   go_enter Tryz.func13,Tryz.ntmps13
   go_upto_region 2 with fail
   rw [<-hW2.out];have hbel:=hb2;go_wp2_with fail
   refine (hpw.out).mono ?_;rintro e w4 ⟨rfl,hb4⟩;replace g0:=Aa hb4 g0;replace g1:=Aa hb4 g1;replace g2:=Aa hb4 g2;replace i0:=Aa hb4 i0;replace i1:=Aa hb4 i1;replace i2:=Aa hb4 i2;replace hfC:=hfC.of_block (hb4.block _ hfC.lt);clear y0 y1 y2;have y0:=hfC.frz 0 none;have y1:=hfC.frz 1 none;have y2:=hfC.frz 2 none;have hbel:=hbel.trans (hb4.mono hbel.size);go_wp2_with fail
   refine ((hcn.out _)).mono ?_;rintro e w4 ⟨rfl,hb4⟩;replace g0:=Aa hb4 g0;replace g1:=Aa hb4 g1;replace g2:=Aa hb4 g2;replace i0:=Aa hb4 i0;replace i1:=Aa hb4 i1;replace i2:=Aa hb4 i2;replace hfC:=hfC.of_block (hb4.block _ hfC.lt);clear y0 y1 y2;have y0:=hfC.frz 0 none;have y1:=hfC.frz 1 none;have y2:=hfC.frz 2 none;have hbel:=hbel.trans (hb4.mono hbel.size);go_wp2_with fail
   refine ((had.out _)).mono ?_;rintro e w4 ⟨rfl,hb4⟩;replace g0:=Aa hb4 g0;replace g1:=Aa hb4 g1;replace g2:=Aa hb4 g2;replace i0:=Aa hb4 i0;replace i1:=Aa hb4 i1;replace i2:=Aa hb4 i2;replace hfC:=hfC.of_block (hb4.block _ hfC.lt);clear y0 y1 y2;have y0:=hfC.frz 0 none;have y1:=hfC.frz 1 none;have y2:=hfC.frz 2 none;have hbel:=hbel.trans (hb4.mono hbel.size);have hfin:=set3 hbel;replace hfin:=Hd hfin;go_wp2_with fail
   refine bodyPost_ret (v:=.tuple #[.agg #[.int .i64 k,.string t,.slice a n cap],.string ⟨#[]⟩,.int .i64 21]) (by simp [results,Tryz.results13,go_sem,i0,i1,i2]) rfl ⟨rfl,hfin.out _ _ _⟩
 · have hk0:(k == 0)=false:=by rw [beq_eq_false_iff_ne];exact k0
   unfold txtK at hS;rw [if_neg k0] at hS;obtain rfl:=hS.symm;replace hpw:=Hd hpw;replace k0:=Hd k0
   go_enter Tryz.func13,Tryz.ntmps13
   go_upto_region 2 with fail
   rw [<-hW2.out];have hbel:=hb2;go_wp2_with fail
   refine (hpw.out).mono ?_;rintro e w4 ⟨rfl,hb4⟩;replace g0:=Aa hb4 g0;replace g1:=Aa hb4 g1;replace g2:=Aa hb4 g2;replace i0:=Aa hb4 i0;replace i1:=Aa hb4 i1;replace i2:=Aa hb4 i2;replace hfC:=hfC.of_block (hb4.block _ hfC.lt);clear y0 y1 y2;have y0:=hfC.frz 0 none;have y1:=hfC.frz 1 none;have y2:=hfC.frz 2 none;have hbel:=hbel.trans (hb4.mono hbel.size);go_wp2_with fail
   refine ((hcn.out _)).mono ?_;rintro e w4 ⟨rfl,hb4⟩;replace g0:=Aa hb4 g0;replace g1:=Aa hb4 g1;replace g2:=Aa hb4 g2;replace i0:=Aa hb4 i0;replace i1:=Aa hb4 i1;replace i2:=Aa hb4 i2;replace hfC:=hfC.of_block (hb4.block _ hfC.lt);clear y0 y1 y2;have y0:=hfC.frz 0 none;have y1:=hfC.frz 1 none;have y2:=hfC.frz 2 none;have hbel:=hbel.trans (hb4.mono hbel.size);go_wp2_with fail
   refine ((had.out _)).mono ?_;rintro e w4 ⟨rfl,hb4⟩;replace g0:=Aa hb4 g0;replace g1:=Aa hb4 g1;replace g2:=Aa hb4 g2;replace i0:=Aa hb4 i0;replace i1:=Aa hb4 i1;replace i2:=Aa hb4 i2;replace hfC:=hfC.of_block (hb4.block _ hfC.lt);clear y0 y1 y2;have y0:=hfC.frz 0 none;have y1:=hfC.frz 1 none;have y2:=hfC.frz 2 none;have hbel:=hbel.trans (hb4.mono hbel.size);have hfin:=set3 hbel;replace hfin:=Hd hfin;go_wp2_with fail
   refine bodyPost_ret (v:=.tuple #[.agg #[.int .i64 k,.string t,.slice a n cap],.string ⟨#[]⟩,.int .i64 21]) (by simp [results,Tryz.results13,go_sem,i0,i1,i2]) rfl ⟨rfl,hfin.out _ _ _⟩
set_option maxRecDepth 100000 in
set_option maxHeartbeats 6400000 in
theorem raddr_sum (k:Int) (hk2:(k == 2)=false) (t S:ByteArray) (hS:S=txtK k t) (a:Option Addr) (n cap:Nat) (r y:Nat) (w:World) (hr:r<18446744073709551616) (hy:y<18446744073709551616) (hb:badF r=false) (hf:badF y=false) (hs:badF (sumV r y)=false) (hY:Lay w) (hF:Flo w) (hpar:∀W,Below w.heap.size w W->Calls Tryz.prog 17 #[.string S] W fun e w' => e=ParA (some r)/\Below W.heap.size W w') :
   Calls Tryz.prog 13 #[.agg #[.int .i64 k,.string t,.slice a n cap],.float .f64 y] w fun e w' => e=.returned (.tuple #[.agg #[.int .i64 1,.string ⟨(Bz (sumV r y)).toArray⟩,.slice none 0 0],.string ⟨(Bz (sumV r y)).toArray⟩,.int .i64 0])/\Below w.heap.size w w' := by
 have htx:∀W,Below w.heap.size w W->Calls Tryz.prog 15 #[.float .f64 (sumV r y)] W fun e w' => e=.returned (.string ⟨(Bz (sumV r y)).toArray⟩)/\Below W.heap.size W w' := fun W hW=>
   refText_any (sumV_lt r y) (hY.below hW).par (hF.below hW) (hY.below hW).rng
 obtain ⟨W2,hW2⟩:∃W2,W2=(w.alloc (.cells #[.int .i64 k,.string t,.slice a n cap] 24)).alloc (.cells #[.int .i64 0,.string ⟨#[]⟩,.slice none 0 0] 24):=⟨_,rfl⟩
 have hb2:Below w.heap.size w W2:=by rw [hW2];exact ((Below.refl _ _).alloc (Nat.le_refl _) _).alloc (by simp) _
 have hs2:W2.heap.size=w.heap.size+2:=by rw [hW2];simp
 have hB:∀q u,#[.int .i64 k,.string t,.slice a n cap][q]?=some u->W2.cell? ⟨w.heap.size,q,none⟩=some u:=fun q u h=>by rw [hW2,World.cell?_alloc_past _ _ _ (by simp),World.cell?_alloc_new];exact h
 have hC:∀q u,#[.int .i64 0,.string ⟨#[]⟩,.slice none 0 0][q]?=some u->W2.cell? ⟨w.heap.size+1,q,none⟩=some u:=fun q u h=>by
   rw [hW2,show w.heap.size+1=(w.alloc (.cells #[.int .i64 k,.string t,.slice a n cap] 24)).heap.size by simp,World.cell?_alloc_new];exact h
 have hfC:Blk W2 (w.heap.size+1):=by rw [hW2,show w.heap.size+1=(w.alloc (.cells #[.int .i64 k,.string t,.slice a n cap] 24)).heap.size by simp];exact Blk.new _ _ _
 have g0:W2.cell? ⟨w.heap.size,0,none⟩=some (.int .i64 k):=hB 0 _ rfl
 have g1:W2.cell? ⟨w.heap.size,1,none⟩=some (.string t):=hB 1 _ rfl
 have g2:W2.cell? ⟨w.heap.size,2,none⟩=some (.slice a n cap):=hB 2 _ rfl
 have i0:W2.cell? ⟨w.heap.size+1,0,none⟩=some (.int .i64 0):=hC 0 _ rfl
 have i1:W2.cell? ⟨w.heap.size+1,1,none⟩=some (.string ⟨#[]⟩):=hC 1 _ rfl
 have i2:W2.cell? ⟨w.heap.size+1,2,none⟩=some (.slice none 0 0):=hC 2 _ rfl
 have y0:=hfC.frz 0 none
 have y1:=hfC.frz 1 none
 have y2:=hfC.frz 2 none
 replace hW2:=Hd hW2
 clear hB hC
 have hcn:=Do hr
 rw [hb] at hcn
 have hcf:=Do hy
 rw [hf] at hcf
 have had:=fun W=>refadd_all r y W
 rw [hs] at had
 simp only [Bool.false_eq_true,if_false] at had
 obtain ⟨s,hse⟩:∃s,s=sumV r y:=⟨_,rfl⟩
 rw [<-hse] at had htx ⊢
 obtain ⟨T,hT⟩:∃T:ByteArray,T=⟨(Bz s).toArray⟩:=⟨_,rfl⟩
 rw [<-hT] at htx ⊢
 have hpw:=hpar W2 hb2
 unfold ParA at hpw
 replace had:=Hd had
 replace htx:=Hd htx
 replace hcn:=Hd hcn
 replace hcf:=Hd hcf
 clear hpar hr hb hs hf hy hse hT hY hF
 by_cases k0:k=0
 · have hk0:(k == 0)=true:=by rw [k0];rfl
   unfold txtK at hS;rw [if_pos k0] at hS;subst hS;replace hpw:=Hd hpw;replace k0:=Hd k0
   go_enter Tryz.func13,Tryz.ntmps13
   go_upto_region 2 with fail
   rw [<-hW2.out];have hbel:=hb2;go_wp2_with fail
   refine (hpw.out).mono ?_;rintro e w4 ⟨rfl,hb4⟩;replace g0:=Aa hb4 g0;replace g1:=Aa hb4 g1;replace g2:=Aa hb4 g2;replace i0:=Aa hb4 i0;replace i1:=Aa hb4 i1;replace i2:=Aa hb4 i2;replace hfC:=hfC.of_block (hb4.block _ hfC.lt);clear y0 y1 y2;have y0:=hfC.frz 0 none;have y1:=hfC.frz 1 none;have y2:=hfC.frz 2 none;have hbel:=hbel.trans (hb4.mono hbel.size);go_wp2_with fail
   refine ((hcn.out _)).mono ?_;rintro e w4 ⟨rfl,hb4⟩;replace g0:=Aa hb4 g0;replace g1:=Aa hb4 g1;replace g2:=Aa hb4 g2;replace i0:=Aa hb4 i0;replace i1:=Aa hb4 i1;replace i2:=Aa hb4 i2;replace hfC:=hfC.of_block (hb4.block _ hfC.lt);clear y0 y1 y2;have y0:=hfC.frz 0 none;have y1:=hfC.frz 1 none;have y2:=hfC.frz 2 none;have hbel:=hbel.trans (hb4.mono hbel.size);go_wp2_with fail
   refine ((had.out _)).mono ?_;rintro e w4 ⟨rfl,hb4⟩;replace g0:=Aa hb4 g0;replace g1:=Aa hb4 g1;replace g2:=Aa hb4 g2;replace i0:=Aa hb4 i0;replace i1:=Aa hb4 i1;replace i2:=Aa hb4 i2;replace hfC:=hfC.of_block (hb4.block _ hfC.lt);clear y0 y1 y2;have y0:=hfC.frz 0 none;have y1:=hfC.frz 1 none;have y2:=hfC.frz 2 none;have hbel:=hbel.trans (hb4.mono hbel.size);go_wp2_with fail
   refine ((hcf.out _)).mono ?_;rintro e w4 ⟨rfl,hb4⟩;replace g0:=Aa hb4 g0;replace g1:=Aa hb4 g1;replace g2:=Aa hb4 g2;replace i0:=Aa hb4 i0;replace i1:=Aa hb4 i1;replace i2:=Aa hb4 i2;replace hfC:=hfC.of_block (hb4.block _ hfC.lt);clear y0 y1 y2;have y0:=hfC.frz 0 none;have y1:=hfC.frz 1 none;have y2:=hfC.frz 2 none;have hbel:=hbel.trans (hb4.mono hbel.size);go_wp2_with fail
   refine ((htx.out _ hbel)).mono ?_;rintro e w4 ⟨rfl,hb4⟩;replace g0:=Aa hb4 g0;replace g1:=Aa hb4 g1;replace g2:=Aa hb4 g2;replace i0:=Aa hb4 i0;replace i1:=Aa hb4 i1;replace i2:=Aa hb4 i2;replace hfC:=hfC.of_block (hb4.block _ hfC.lt);clear y0 y1 y2;have y0:=hfC.frz 0 none;have y1:=hfC.frz 1 none;have y2:=hfC.frz 2 none;have hbel:=hbel.trans (hb4.mono hbel.size);go_wp2_with fail
   refine ((htx.out _ hbel)).mono ?_;rintro e w4 ⟨rfl,hb4⟩;replace g0:=Aa hb4 g0;replace g1:=Aa hb4 g1;replace g2:=Aa hb4 g2;replace i0:=Aa hb4 i0;replace i1:=Aa hb4 i1;replace i2:=Aa hb4 i2;replace hfC:=hfC.of_block (hb4.block _ hfC.lt);clear y0 y1 y2;have y0:=hfC.frz 0 none;have y1:=hfC.frz 1 none;have y2:=hfC.frz 2 none;have hbel:=hbel.trans (hb4.mono hbel.size);have hfin:=set3 hbel;replace hfin:=Hd hfin;go_wp2_with fail
   refine bodyPost_ret (v:=.tuple #[.agg #[.int .i64 1,.string T,.slice none 0 0],.string T,.int .i64 0]) (by simp [results,Tryz.results13,go_sem,i0,i1,i2]) rfl ⟨rfl,hfin.out _ _ _⟩
 · have hk0:(k == 0)=false:=by rw [beq_eq_false_iff_ne];exact k0
   unfold txtK at hS;rw [if_neg k0] at hS;obtain rfl:=hS.symm;replace hpw:=Hd hpw;replace k0:=Hd k0
   go_enter Tryz.func13,Tryz.ntmps13
   go_upto_region 2 with fail
   rw [<-hW2.out];have hbel:=hb2;go_wp2_with fail
   refine (hpw.out).mono ?_;rintro e w4 ⟨rfl,hb4⟩;replace g0:=Aa hb4 g0;replace g1:=Aa hb4 g1;replace g2:=Aa hb4 g2;replace i0:=Aa hb4 i0;replace i1:=Aa hb4 i1;replace i2:=Aa hb4 i2;replace hfC:=hfC.of_block (hb4.block _ hfC.lt);clear y0 y1 y2;have y0:=hfC.frz 0 none;have y1:=hfC.frz 1 none;have y2:=hfC.frz 2 none;have hbel:=hbel.trans (hb4.mono hbel.size);go_wp2_with fail
   refine ((hcn.out _)).mono ?_;rintro e w4 ⟨rfl,hb4⟩;replace g0:=Aa hb4 g0;replace g1:=Aa hb4 g1;replace g2:=Aa hb4 g2;replace i0:=Aa hb4 i0;replace i1:=Aa hb4 i1;replace i2:=Aa hb4 i2;replace hfC:=hfC.of_block (hb4.block _ hfC.lt);clear y0 y1 y2;have y0:=hfC.frz 0 none;have y1:=hfC.frz 1 none;have y2:=hfC.frz 2 none;have hbel:=hbel.trans (hb4.mono hbel.size);go_wp2_with fail
   refine ((had.out _)).mono ?_;rintro e w4 ⟨rfl,hb4⟩;replace g0:=Aa hb4 g0;replace g1:=Aa hb4 g1;replace g2:=Aa hb4 g2;replace i0:=Aa hb4 i0;replace i1:=Aa hb4 i1;replace i2:=Aa hb4 i2;replace hfC:=hfC.of_block (hb4.block _ hfC.lt);clear y0 y1 y2;have y0:=hfC.frz 0 none;have y1:=hfC.frz 1 none;have y2:=hfC.frz 2 none;have hbel:=hbel.trans (hb4.mono hbel.size);go_wp2_with fail
   refine ((hcf.out _)).mono ?_;rintro e w4 ⟨rfl,hb4⟩;replace g0:=Aa hb4 g0;replace g1:=Aa hb4 g1;replace g2:=Aa hb4 g2;replace i0:=Aa hb4 i0;replace i1:=Aa hb4 i1;replace i2:=Aa hb4 i2;replace hfC:=hfC.of_block (hb4.block _ hfC.lt);clear y0 y1 y2;have y0:=hfC.frz 0 none;have y1:=hfC.frz 1 none;have y2:=hfC.frz 2 none;have hbel:=hbel.trans (hb4.mono hbel.size);go_wp2_with fail
   refine ((htx.out _ hbel)).mono ?_;rintro e w4 ⟨rfl,hb4⟩;replace g0:=Aa hb4 g0;replace g1:=Aa hb4 g1;replace g2:=Aa hb4 g2;replace i0:=Aa hb4 i0;replace i1:=Aa hb4 i1;replace i2:=Aa hb4 i2;replace hfC:=hfC.of_block (hb4.block _ hfC.lt);clear y0 y1 y2;have y0:=hfC.frz 0 none;have y1:=hfC.frz 1 none;have y2:=hfC.frz 2 none;have hbel:=hbel.trans (hb4.mono hbel.size);go_wp2_with fail
   refine ((htx.out _ hbel)).mono ?_;rintro e w4 ⟨rfl,hb4⟩;replace g0:=Aa hb4 g0;replace g1:=Aa hb4 g1;replace g2:=Aa hb4 g2;replace i0:=Aa hb4 i0;replace i1:=Aa hb4 i1;replace i2:=Aa hb4 i2;replace hfC:=hfC.of_block (hb4.block _ hfC.lt);clear y0 y1 y2;have y0:=hfC.frz 0 none;have y1:=hfC.frz 1 none;have y2:=hfC.frz 2 none;have hbel:=hbel.trans (hb4.mono hbel.size);have hfin:=set3 hbel;replace hfin:=Hd hfin;go_wp2_with fail
   refine bodyPost_ret (v:=.tuple #[.agg #[.int .i64 1,.string T,.slice none 0 0],.string T,.int .i64 0]) (by simp [results,Tryz.results13,go_sem,i0,i1,i2]) rfl ⟨rfl,hfin.out _ _ _⟩
theorem raddr_all {k:Int} {t:ByteArray} {a:Option Addr} {n cap:Nat} {fs:List Fld} {y:Nat} {w:World} (hr:RF w a n cap fs) (hn:n<=1000) (hy:y<18446744073709551616) (hY:Lay w) (hF:Flo w) {k1:Int} {t1:ByteArray} {fs1:List Fld} {x:ByteArray} {e1:Int} (h:AddQ t fs y k k1 t1 fs1 x e1) :
   Calls Tryz.prog 13 #[.agg #[.int .i64 k,.string t,.slice a n cap],.float .f64 y] w fun e w' => ∃(a' : Option Addr) (n' cap' : Nat),e=.returned (.tuple #[.agg #[.int .i64 k1,.string t1,.slice a' n' cap'],.string x,.int .i64 e1])/\RF w' a' n' cap' fs1/\n' <= 1000/\Below w.heap.size w w' := by
 have hk2:∀{r:Nat},WasP k t r->(k == 2)=false:=fun {r} hw=>by
   rcases hw with ⟨rfl,_⟩ | ⟨rfl,_⟩<;>rfl
 cases h with
 | hash=>exact (raddr_hash 2 rfl t a n cap y w).mono fun e w' ⟨h1,h3⟩=>⟨a,n,cap,h1,hr.below h3,hn,h3⟩
 | none ho=>exact (raddr_none 1 rfl t a n cap y w (fun W hW=>ref_all ho (hY.below hW))).mono fun e w' ⟨h1,h3⟩=>⟨a,n,cap,h1,hr.below h3,hn,h3⟩
 | wild ho hb=>exact (raddr_wild 1 rfl t a n cap _ y w (parO_lt ho _ rfl) hb (fun W hW=>ref_all ho (hY.below hW))).mono fun e w' ⟨h1,h3⟩=>⟨a,n,cap,h1,hr.below h3,hn,h3⟩
 | over hw hb hs=>exact (raddr_over k (hk2 hw) t _ rfl a n cap _ y w (Ee hw) hb hs (fun W hW=>ref_all (wasP_par hw) (hY.below hW))).mono fun e w' ⟨h1,h3⟩=>⟨a,n,cap,h1,hr.below h3,hn,h3⟩
 | sum hw hb hs=>
   have hf:badF y=false:=by
     cases hf:badF y with
     | false=>rfl
     | true=>rw [sum_bad hy (Ee hw) hb hf] at hs;cases hs
   exact (raddr_sum k (hk2 hw) t _ rfl a n cap _ y w (Ee hw) hy hb hf hs hY hF (fun W hW=>ref_all (wasP_par hw) (hY.below hW))).mono fun e w' ⟨h1,h3⟩=>⟨none,0,0,h1,Reads.nil _ _ _ _,by omega,h3⟩
theorem radd_hash (k:Int) (hk:k=2) (t:ByteArray) (a:Option Addr) (n cap:Nat) (v:Int) (w:World) :
   Calls Tryz.prog 11 #[.agg #[.int .i64 k,.string t,.slice a n cap],.int .i64 v] w fun e w' => e=.returned (.tuple #[.agg #[.int .i64 k,.string t,.slice a n cap],.int .i64 0,.int .i64 91])/\Below w.heap.size w w' := by
 have hk2:(k == 2)=true:=by simpa using hk
 replace hk:=Hd hk
 obtain ⟨W2,hW2⟩:∃W2,W2=(w.alloc (.cells #[.int .i64 k,.string t,.slice a n cap] 24)).alloc (.cells #[.int .i64 0,.string ⟨#[]⟩,.slice none 0 0] 24):=⟨_,rfl⟩
 have hb2:Below w.heap.size w W2:=by rw [hW2];exact ((Below.refl _ _).alloc (Nat.le_refl _) _).alloc (by simp) _
 have hs2:W2.heap.size=w.heap.size+2:=by rw [hW2];simp
 have hB:∀q u,#[.int .i64 k,.string t,.slice a n cap][q]?=some u->W2.cell? ⟨w.heap.size,q,none⟩=some u:=fun q u h=>by rw [hW2,World.cell?_alloc_past _ _ _ (by simp),World.cell?_alloc_new];exact h
 have hC:∀q u,#[.int .i64 0,.string ⟨#[]⟩,.slice none 0 0][q]?=some u->W2.cell? ⟨w.heap.size+1,q,none⟩=some u:=fun q u h=>by
   rw [hW2,show w.heap.size+1=(w.alloc (.cells #[.int .i64 k,.string t,.slice a n cap] 24)).heap.size by simp,World.cell?_alloc_new];exact h
 have hfC:Blk W2 (w.heap.size+1):=by rw [hW2,show w.heap.size+1=(w.alloc (.cells #[.int .i64 k,.string t,.slice a n cap] 24)).heap.size by simp];exact Blk.new _ _ _
 have g0:W2.cell? ⟨w.heap.size,0,none⟩=some (.int .i64 k):=hB 0 _ rfl
 have g1:W2.cell? ⟨w.heap.size,1,none⟩=some (.string t):=hB 1 _ rfl
 have g2:W2.cell? ⟨w.heap.size,2,none⟩=some (.slice a n cap):=hB 2 _ rfl
 have i0:W2.cell? ⟨w.heap.size+1,0,none⟩=some (.int .i64 0):=hC 0 _ rfl
 have i1:W2.cell? ⟨w.heap.size+1,1,none⟩=some (.string ⟨#[]⟩):=hC 1 _ rfl
 have i2:W2.cell? ⟨w.heap.size+1,2,none⟩=some (.slice none 0 0):=hC 2 _ rfl
 have y0:=hfC.frz 0 none
 have y1:=hfC.frz 1 none
 have y2:=hfC.frz 2 none
 replace hW2:=Hd hW2
 clear hB hC
 go_enter Tryz.func11,Tryz.ntmps11
 go_upto_region 2 with fail
 rw [<-hW2.out]
 have hbel:=hb2
 have hfin:=set3 hbel
 replace hfin:=Hd hfin
 go_wp2_with fail
 refine bodyPost_ret (v:=.tuple #[.agg #[.int .i64 k,.string t,.slice a n cap],.int .i64 0,.int .i64 91]) (by simp [results,Tryz.results11,go_sem,i0,i1,i2]) rfl ⟨rfl,hfin.out _ _ _⟩
theorem wasZ_par {k:Int} {t:ByteArray} {was:Int} (hk:k=0\/k=1) (hw:wasZ k t=some was):wP (txtK k t).data.toList=some was:=by
 rcases hk with rfl | rfl
 · have:was=0:=by unfold wasZ at hw;simpa using hw.symm
   subst this;show wP (⟨#[48]⟩:ByteArray).data.toList=some 0;decide +kernel
 · exact hw
set_option maxRecDepth 100000 in
set_option maxHeartbeats 3200000 in
theorem radd_none (k:Int) (hk:k=1) (t:ByteArray) (a:Option Addr) (n cap:Nat) (v:Int) (w:World) (hw:wP t.data.toList=none) (ht:t.size<=1000000) :
   Calls Tryz.prog 11 #[.agg #[.int .i64 k,.string t,.slice a n cap],.int .i64 v] w fun e w' => e=.returned (.tuple #[.agg #[.int .i64 k,.string t,.slice a n cap],.int .i64 0,.int .i64 92])/\Below w.heap.size w w' := by
 have hk2:(k == 2)=false:=by rw [hk];rfl
 have hk0:(k == 0)=false:=by rw [hk];rfl
 replace hk:=Hd hk
 have hpw:∀W,Calls Tryz.prog 27 #[.string t] W fun e w' => e=.returned (.tuple #[.int .i64 0,.int .i64 11])/\Below W.heap.size W w' := fun W=>(parse01_any t (by omega) W).mono fun e w' ⟨h1,h2⟩=>⟨by rw [hw] at h1;exact h1,h2⟩
 replace hpw:=Hd hpw
 clear hw
 obtain ⟨W2,hW2⟩:∃W2,W2=(w.alloc (.cells #[.int .i64 k,.string t,.slice a n cap] 24)).alloc (.cells #[.int .i64 0,.string ⟨#[]⟩,.slice none 0 0] 24):=⟨_,rfl⟩
 have hb2:Below w.heap.size w W2:=by rw [hW2];exact ((Below.refl _ _).alloc (Nat.le_refl _) _).alloc (by simp) _
 have hs2:W2.heap.size=w.heap.size+2:=by rw [hW2];simp
 have hB:∀q u,#[.int .i64 k,.string t,.slice a n cap][q]?=some u->W2.cell? ⟨w.heap.size,q,none⟩=some u:=fun q u h=>by rw [hW2,World.cell?_alloc_past _ _ _ (by simp),World.cell?_alloc_new];exact h
 have hC:∀q u,#[.int .i64 0,.string ⟨#[]⟩,.slice none 0 0][q]?=some u->W2.cell? ⟨w.heap.size+1,q,none⟩=some u:=fun q u h=>by
   rw [hW2,show w.heap.size+1=(w.alloc (.cells #[.int .i64 k,.string t,.slice a n cap] 24)).heap.size by simp,World.cell?_alloc_new];exact h
 have hfC:Blk W2 (w.heap.size+1):=by rw [hW2,show w.heap.size+1=(w.alloc (.cells #[.int .i64 k,.string t,.slice a n cap] 24)).heap.size by simp];exact Blk.new _ _ _
 have g0:W2.cell? ⟨w.heap.size,0,none⟩=some (.int .i64 k):=hB 0 _ rfl
 have g1:W2.cell? ⟨w.heap.size,1,none⟩=some (.string t):=hB 1 _ rfl
 have g2:W2.cell? ⟨w.heap.size,2,none⟩=some (.slice a n cap):=hB 2 _ rfl
 have i0:W2.cell? ⟨w.heap.size+1,0,none⟩=some (.int .i64 0):=hC 0 _ rfl
 have i1:W2.cell? ⟨w.heap.size+1,1,none⟩=some (.string ⟨#[]⟩):=hC 1 _ rfl
 have i2:W2.cell? ⟨w.heap.size+1,2,none⟩=some (.slice none 0 0):=hC 2 _ rfl
 have y0:=hfC.frz 0 none
 have y1:=hfC.frz 1 none
 have y2:=hfC.frz 2 none
 replace hW2:=Hd hW2
 clear hB hC
 go_enter Tryz.func11,Tryz.ntmps11
 go_upto_region 2 with fail
 rw [<-hW2.out]
 have hbel:=hb2
 go_wp2_with fail
 refine ((hpw.out _)).mono ?_
 rintro e w4 ⟨rfl,hb4⟩
 replace g0:=Aa hb4 g0
 replace g1:=Aa hb4 g1
 replace g2:=Aa hb4 g2
 replace i0:=Aa hb4 i0
 replace i1:=Aa hb4 i1
 replace i2:=Aa hb4 i2
 replace hfC:=hfC.of_block (hb4.block _ hfC.lt)
 clear y0 y1 y2
 have y0:=hfC.frz 0 none
 have y1:=hfC.frz 1 none
 have y2:=hfC.frz 2 none
 have hbel:=hbel.trans (hb4.mono hbel.size)
 have hfin:=set3 hbel
 replace hfin:=Hd hfin
 go_wp2_with fail
 refine bodyPost_ret (v:=.tuple #[.agg #[.int .i64 k,.string t,.slice a n cap],.int .i64 0,.int .i64 92]) (by simp [results,Tryz.results11,go_sem,i0,i1,i2]) rfl ⟨rfl,hfin.out _ _ _⟩
set_option maxRecDepth 100000 in
set_option maxHeartbeats 6400000 in
theorem radd_num (k:Int) (hk:k=0\/k=1) (t S:ByteArray) (hS:S=txtK k t) (a:Option Addr) (n cap:Nat) (v was:Int) (w:World) (hw:wasZ k t=some was) (hv:Am v) (ht:t.size<=1000000) :
   Calls Tryz.prog 11 #[.agg #[.int .i64 k,.string t,.slice a n cap],.int .i64 v] w fun e w' => ((Am (was+v)/\e=.returned (.tuple #[.agg #[.int .i64 1,.string (sumT (was+v)),.slice none 0 0],.int .i64 (was+v),.int .i64 0]))\/(¬Am (was+v)/\e=.returned (.tuple #[.agg #[.int .i64 k,.string t,.slice a n cap],.int .i64 0,.int .i64 12])))/\Below w.heap.size w w' := by
 have hk2:(k == 2)=false:=by rcases hk with rfl | rfl<;>rfl
 have hwp:=wasZ_par hk hw
 rw [<-hS] at hwp
 have hwf:Am was:=(wP_iff.1 hwp).1
 have hSz:S.size<=281474976710656:=by
   rw [hS];unfold txtK;split
   · decide
   · omega
 have hpw:∀W,Calls Tryz.prog 27 #[.string S] W fun e w' => e=.returned (.tuple #[.int .i64 was,.int .i64 0])/\Below W.heap.size W w' := fun W=>(parse01_any S hSz W).mono fun e w' ⟨h1,h2⟩=>⟨by rw [hwp] at h1;exact h1,h2⟩
 have had:=add01_any was v hwf hv
 clear hwp hSz hwf hw
 by_cases hs:Am (was+v)
 · have had:∀W,Calls Tryz.prog 28 #[.int .i64 was,.int .i64 v] W fun e w' => e=.returned (.tuple #[.int .i64 (was+v),.int .i64 0])/\Below W.heap.size W w' := fun W=>(had W).mono fun e w' ⟨h1,h2⟩=>⟨by
     rcases h1 with h1 | h1
     · exact h1.2
     · exact absurd hs h1.1,h2⟩
   have htx:∀W,Calls Tryz.prog 29 #[.int .i64 (was+v)] W fun e w' => e=.returned (.string (sumT (was+v)))/\Below W.heap.size W w' := fun W=>Fv _ hs.1 hs.2 W;refine Calls.mono (R:=fun e w' => e=.returned (.tuple #[.agg #[.int .i64 1,.string (sumT (was+v)),.slice none 0 0],.int .i64 (was+v),.int .i64 0])/\Below w.heap.size w w') ?_ (fun e w' ⟨h1,h2⟩=>⟨.inl ⟨hs,h1⟩,h2⟩);clear hs;obtain ⟨T,hT⟩:∃T,T=sumT (was+v):=⟨_,rfl⟩;rw [<-hT] at htx ⊢;obtain ⟨U,hU⟩:∃U,U=was+v:=⟨_,rfl⟩;rw [<-hU] at htx had ⊢;replace had:=Hd had;replace htx:=Hd htx;clear hT hU hv;obtain ⟨W2,hW2⟩:∃W2,W2=(w.alloc (.cells #[.int .i64 k,.string t,.slice a n cap] 24)).alloc (.cells #[.int .i64 0,.string ⟨#[]⟩,.slice none 0 0] 24):=⟨_,rfl⟩;have hb2:Below w.heap.size w W2:=by rw [hW2];exact ((Below.refl _ _).alloc (Nat.le_refl _) _).alloc (by simp) _
   have hs2:W2.heap.size=w.heap.size+2:=by rw [hW2];simp
   have hB:∀q u,#[.int .i64 k,.string t,.slice a n cap][q]?=some u->W2.cell? ⟨w.heap.size,q,none⟩=some u:=fun q u h=>by rw [hW2,World.cell?_alloc_past _ _ _ (by simp),World.cell?_alloc_new];exact h
   have hC:∀q u,#[.int .i64 0,.string ⟨#[]⟩,.slice none 0 0][q]?=some u->W2.cell? ⟨w.heap.size+1,q,none⟩=some u:=fun q u h=>by
     rw [hW2,show w.heap.size+1=(w.alloc (.cells #[.int .i64 k,.string t,.slice a n cap] 24)).heap.size by simp,World.cell?_alloc_new];exact h
   have hfC:Blk W2 (w.heap.size+1):=by rw [hW2,show w.heap.size+1=(w.alloc (.cells #[.int .i64 k,.string t,.slice a n cap] 24)).heap.size by simp];exact Blk.new _ _ _
   have g0:W2.cell? ⟨w.heap.size,0,none⟩=some (.int .i64 k):=hB 0 _ rfl;have g1:W2.cell? ⟨w.heap.size,1,none⟩=some (.string t):=hB 1 _ rfl;have g2:W2.cell? ⟨w.heap.size,2,none⟩=some (.slice a n cap):=hB 2 _ rfl;have i0:W2.cell? ⟨w.heap.size+1,0,none⟩=some (.int .i64 0):=hC 0 _ rfl;have i1:W2.cell? ⟨w.heap.size+1,1,none⟩=some (.string ⟨#[]⟩):=hC 1 _ rfl;have i2:W2.cell? ⟨w.heap.size+1,2,none⟩=some (.slice none 0 0):=hC 2 _ rfl;have y0:=hfC.frz 0 none;have y1:=hfC.frz 1 none;have y2:=hfC.frz 2 none;replace hW2:=Hd hW2;clear hB hC;by_cases k0:k=0
   · have hk0:(k == 0)=true:=by rw [k0];rfl
     unfold txtK at hS;rw [if_pos k0] at hS;subst hS;replace hpw:=Hd hpw;replace k0:=Hd k0;clear hk
     go_enter Tryz.func11,Tryz.ntmps11
     go_upto_region 2 with fail
     rw [<-hW2.out];have hbel:=hb2;go_wp2_with fail
     refine ((hpw.out _)).mono ?_;rintro e w4 ⟨rfl,hb4⟩;replace g0:=Aa hb4 g0;replace g1:=Aa hb4 g1;replace g2:=Aa hb4 g2;replace i0:=Aa hb4 i0;replace i1:=Aa hb4 i1;replace i2:=Aa hb4 i2;replace hfC:=hfC.of_block (hb4.block _ hfC.lt);clear y0 y1 y2;have y0:=hfC.frz 0 none;have y1:=hfC.frz 1 none;have y2:=hfC.frz 2 none;have hbel:=hbel.trans (hb4.mono hbel.size);go_wp2_with fail
     refine ((had.out _)).mono ?_;rintro e w4 ⟨rfl,hb4⟩;replace g0:=Aa hb4 g0;replace g1:=Aa hb4 g1;replace g2:=Aa hb4 g2;replace i0:=Aa hb4 i0;replace i1:=Aa hb4 i1;replace i2:=Aa hb4 i2;replace hfC:=hfC.of_block (hb4.block _ hfC.lt);clear y0 y1 y2;have y0:=hfC.frz 0 none;have y1:=hfC.frz 1 none;have y2:=hfC.frz 2 none;have hbel:=hbel.trans (hb4.mono hbel.size);go_wp2_with fail
     refine ((htx.out _)).mono ?_;rintro e w4 ⟨rfl,hb4⟩;replace g0:=Aa hb4 g0;replace g1:=Aa hb4 g1;replace g2:=Aa hb4 g2;replace i0:=Aa hb4 i0;replace i1:=Aa hb4 i1;replace i2:=Aa hb4 i2;replace hfC:=hfC.of_block (hb4.block _ hfC.lt);clear y0 y1 y2;have y0:=hfC.frz 0 none;have y1:=hfC.frz 1 none;have y2:=hfC.frz 2 none;have hbel:=hbel.trans (hb4.mono hbel.size);have hfin:=set3 hbel;replace hfin:=Hd hfin;go_wp2_with fail
     refine bodyPost_ret (v:=.tuple #[.agg #[.int .i64 1,.string T,.slice none 0 0],.int .i64 U,.int .i64 0]) (by simp [results,Tryz.results11,go_sem,i0,i1,i2]) rfl ⟨rfl,hfin.out _ _ _⟩
   · have hk0:(k == 0)=false:=by rw [beq_eq_false_iff_ne];exact k0
     unfold txtK at hS;rw [if_neg k0] at hS;obtain rfl:=hS.symm;replace hpw:=Hd hpw;replace k0:=Hd k0;clear hk
     go_enter Tryz.func11,Tryz.ntmps11
     go_upto_region 2 with fail
     rw [<-hW2.out];have hbel:=hb2;go_wp2_with fail
     refine ((hpw.out _)).mono ?_;rintro e w4 ⟨rfl,hb4⟩;replace g0:=Aa hb4 g0;replace g1:=Aa hb4 g1;replace g2:=Aa hb4 g2;replace i0:=Aa hb4 i0;replace i1:=Aa hb4 i1;replace i2:=Aa hb4 i2;replace hfC:=hfC.of_block (hb4.block _ hfC.lt);clear y0 y1 y2;have y0:=hfC.frz 0 none;have y1:=hfC.frz 1 none;have y2:=hfC.frz 2 none;have hbel:=hbel.trans (hb4.mono hbel.size);go_wp2_with fail
     refine ((had.out _)).mono ?_;rintro e w4 ⟨rfl,hb4⟩;replace g0:=Aa hb4 g0;replace g1:=Aa hb4 g1;replace g2:=Aa hb4 g2;replace i0:=Aa hb4 i0;replace i1:=Aa hb4 i1;replace i2:=Aa hb4 i2;replace hfC:=hfC.of_block (hb4.block _ hfC.lt);clear y0 y1 y2;have y0:=hfC.frz 0 none;have y1:=hfC.frz 1 none;have y2:=hfC.frz 2 none;have hbel:=hbel.trans (hb4.mono hbel.size);go_wp2_with fail
     refine ((htx.out _)).mono ?_;rintro e w4 ⟨rfl,hb4⟩;replace g0:=Aa hb4 g0;replace g1:=Aa hb4 g1;replace g2:=Aa hb4 g2;replace i0:=Aa hb4 i0;replace i1:=Aa hb4 i1;replace i2:=Aa hb4 i2;replace hfC:=hfC.of_block (hb4.block _ hfC.lt);clear y0 y1 y2;have y0:=hfC.frz 0 none;have y1:=hfC.frz 1 none;have y2:=hfC.frz 2 none;have hbel:=hbel.trans (hb4.mono hbel.size);have hfin:=set3 hbel;replace hfin:=Hd hfin;go_wp2_with fail
     refine bodyPost_ret (v:=.tuple #[.agg #[.int .i64 1,.string T,.slice none 0 0],.int .i64 U,.int .i64 0]) (by simp [results,Tryz.results11,go_sem,i0,i1,i2]) rfl ⟨rfl,hfin.out _ _ _⟩
 · have had:∀W,Calls Tryz.prog 28 #[.int .i64 was,.int .i64 v] W fun e w' => e=.returned (.tuple #[.int .i64 0,.int .i64 12])/\Below W.heap.size W w' := fun W=>(had W).mono fun e w' ⟨h1,h2⟩=>⟨by
     rcases h1 with h1 | h1
     · exact absurd h1.1 hs
     · exact h1.2,h2⟩
   refine Calls.mono (R:=fun e w' => e=.returned (.tuple #[.agg #[.int .i64 k,.string t,.slice a n cap],.int .i64 0,.int .i64 12])/\Below w.heap.size w w') ?_ (fun e w' ⟨h1,h2⟩=>⟨.inr ⟨hs,h1⟩,h2⟩);clear hs;replace had:=Hd had;clear hv;obtain ⟨W2,hW2⟩:∃W2,W2=(w.alloc (.cells #[.int .i64 k,.string t,.slice a n cap] 24)).alloc (.cells #[.int .i64 0,.string ⟨#[]⟩,.slice none 0 0] 24):=⟨_,rfl⟩;have hb2:Below w.heap.size w W2:=by rw [hW2];exact ((Below.refl _ _).alloc (Nat.le_refl _) _).alloc (by simp) _
   have hs2:W2.heap.size=w.heap.size+2:=by rw [hW2];simp
   have hB:∀q u,#[.int .i64 k,.string t,.slice a n cap][q]?=some u->W2.cell? ⟨w.heap.size,q,none⟩=some u:=fun q u h=>by rw [hW2,World.cell?_alloc_past _ _ _ (by simp),World.cell?_alloc_new];exact h
   have hC:∀q u,#[.int .i64 0,.string ⟨#[]⟩,.slice none 0 0][q]?=some u->W2.cell? ⟨w.heap.size+1,q,none⟩=some u:=fun q u h=>by
     rw [hW2,show w.heap.size+1=(w.alloc (.cells #[.int .i64 k,.string t,.slice a n cap] 24)).heap.size by simp,World.cell?_alloc_new];exact h
   have hfC:Blk W2 (w.heap.size+1):=by rw [hW2,show w.heap.size+1=(w.alloc (.cells #[.int .i64 k,.string t,.slice a n cap] 24)).heap.size by simp];exact Blk.new _ _ _
   have g0:W2.cell? ⟨w.heap.size,0,none⟩=some (.int .i64 k):=hB 0 _ rfl;have g1:W2.cell? ⟨w.heap.size,1,none⟩=some (.string t):=hB 1 _ rfl;have g2:W2.cell? ⟨w.heap.size,2,none⟩=some (.slice a n cap):=hB 2 _ rfl;have i0:W2.cell? ⟨w.heap.size+1,0,none⟩=some (.int .i64 0):=hC 0 _ rfl;have i1:W2.cell? ⟨w.heap.size+1,1,none⟩=some (.string ⟨#[]⟩):=hC 1 _ rfl;have i2:W2.cell? ⟨w.heap.size+1,2,none⟩=some (.slice none 0 0):=hC 2 _ rfl;have y0:=hfC.frz 0 none;have y1:=hfC.frz 1 none;have y2:=hfC.frz 2 none;replace hW2:=Hd hW2;clear hB hC;by_cases k0:k=0
   · have hk0:(k == 0)=true:=by rw [k0];rfl
     unfold txtK at hS;rw [if_pos k0] at hS;subst hS;replace hpw:=Hd hpw;replace k0:=Hd k0;clear hk
     go_enter Tryz.func11,Tryz.ntmps11
     go_upto_region 2 with fail
     rw [<-hW2.out];have hbel:=hb2;go_wp2_with fail
     refine ((hpw.out _)).mono ?_;rintro e w4 ⟨rfl,hb4⟩;replace g0:=Aa hb4 g0;replace g1:=Aa hb4 g1;replace g2:=Aa hb4 g2;replace i0:=Aa hb4 i0;replace i1:=Aa hb4 i1;replace i2:=Aa hb4 i2;replace hfC:=hfC.of_block (hb4.block _ hfC.lt);clear y0 y1 y2;have y0:=hfC.frz 0 none;have y1:=hfC.frz 1 none;have y2:=hfC.frz 2 none;have hbel:=hbel.trans (hb4.mono hbel.size);go_wp2_with fail
     refine ((had.out _)).mono ?_;rintro e w4 ⟨rfl,hb4⟩;replace g0:=Aa hb4 g0;replace g1:=Aa hb4 g1;replace g2:=Aa hb4 g2;replace i0:=Aa hb4 i0;replace i1:=Aa hb4 i1;replace i2:=Aa hb4 i2;replace hfC:=hfC.of_block (hb4.block _ hfC.lt);clear y0 y1 y2;have y0:=hfC.frz 0 none;have y1:=hfC.frz 1 none;have y2:=hfC.frz 2 none;have hbel:=hbel.trans (hb4.mono hbel.size);have hfin:=set3 hbel;replace hfin:=Hd hfin;go_wp2_with fail
     refine bodyPost_ret (v:=.tuple #[.agg #[.int .i64 k,.string t,.slice a n cap],.int .i64 0,.int .i64 12]) (by simp [results,Tryz.results11,go_sem,i0,i1,i2]) rfl ⟨rfl,hfin.out _ _ _⟩
   · have hk0:(k == 0)=false:=by rw [beq_eq_false_iff_ne];exact k0
     unfold txtK at hS;rw [if_neg k0] at hS;obtain rfl:=hS.symm;replace hpw:=Hd hpw;replace k0:=Hd k0;clear hk
     go_enter Tryz.func11,Tryz.ntmps11
     go_upto_region 2 with fail
     rw [<-hW2.out];have hbel:=hb2;go_wp2_with fail
     refine ((hpw.out _)).mono ?_;rintro e w4 ⟨rfl,hb4⟩;replace g0:=Aa hb4 g0;replace g1:=Aa hb4 g1;replace g2:=Aa hb4 g2;replace i0:=Aa hb4 i0;replace i1:=Aa hb4 i1;replace i2:=Aa hb4 i2;replace hfC:=hfC.of_block (hb4.block _ hfC.lt);clear y0 y1 y2;have y0:=hfC.frz 0 none;have y1:=hfC.frz 1 none;have y2:=hfC.frz 2 none;have hbel:=hbel.trans (hb4.mono hbel.size);go_wp2_with fail
     refine ((had.out _)).mono ?_;rintro e w4 ⟨rfl,hb4⟩;replace g0:=Aa hb4 g0;replace g1:=Aa hb4 g1;replace g2:=Aa hb4 g2;replace i0:=Aa hb4 i0;replace i1:=Aa hb4 i1;replace i2:=Aa hb4 i2;replace hfC:=hfC.of_block (hb4.block _ hfC.lt);clear y0 y1 y2;have y0:=hfC.frz 0 none;have y1:=hfC.frz 1 none;have y2:=hfC.frz 2 none;have hbel:=hbel.trans (hb4.mono hbel.size);have hfin:=set3 hbel;replace hfin:=Hd hfin;go_wp2_with fail
     refine bodyPost_ret (v:=.tuple #[.agg #[.int .i64 k,.string t,.slice a n cap],.int .i64 0,.int .i64 12]) (by simp [results,Tryz.results11,go_sem,i0,i1,i2]) rfl ⟨rfl,hfin.out _ _ _⟩
theorem radd9_all {k:Int} {t:ByteArray} {a:Option Addr} {n cap:Nat} {fs:List Fld} {v:Int} {w:World} (hr:RF w a n cap fs) (hn:n<=1000) (ht:t.size<=5000) (hv:Am v) (hk:k=0\/k=1\/k=2) {k1:Int} {t1:ByteArray} {fs1:List Fld} {x e1:Int} (h:AddR t fs v k k1 t1 fs1 x e1) :
   Calls Tryz.prog 11 #[.agg #[.int .i64 k,.string t,.slice a n cap],.int .i64 v] w fun e w' => ∃(a' : Option Addr) (n' cap' : Nat),e=.returned (.tuple #[.agg #[.int .i64 k1,.string t1,.slice a' n' cap'],.int .i64 x,.int .i64 e1])/\RF w' a' n' cap' fs1/\n' <= 1000/\Below w.heap.size w w' := by
 cases h with
 | hash=>exact (radd_hash 2 rfl t a n cap v w).mono fun e w' ⟨h1,h3⟩=>⟨a,n,cap,h1,hr.below h3,hn,h3⟩
 | none hw=>exact (radd_none 1 rfl t a n cap v w hw (by omega)).mono fun e w' ⟨h1,h3⟩=>⟨a,n,cap,h1,hr.below h3,hn,h3⟩
 | over h2 hw hs=>
   exact (radd_num k (by omega) t _ rfl a n cap v _ w hw hv (by omega)).mono fun e w' ⟨h1,h3⟩=>by
     rcases h1 with h1 | h1
     · exact absurd h1.1 hs
     · exact ⟨a,n,cap,h1.2,hr.below h3,hn,h3⟩
 | sum h2 hw hs=>
   exact (radd_num k (by omega) t _ rfl a n cap v _ w hw hv (by omega)).mono fun e w' ⟨h1,h3⟩=>by
     rcases h1 with h1 | h1
     · exact ⟨none,0,0,h1.2,Reads.nil _ _ _ _,by omega,h3⟩
     · exact absurd hs h1.1
theorem same_self' (k:Int) (t:ByteArray) (fs:List Fld):true=true ↔ SameI k t fs k t fs:=⟨fun _=>⟨rfl,rfl,rfl⟩,fun _=>rfl⟩
theorem bool_of' (p:Prop):∃q:Bool,q=true ↔ p:=by
 by_cases h:p
 · exact ⟨true,by simp [h]⟩
 · exact ⟨false,by simp [h]⟩
theorem kind_of {k:Int} {t:ByteArray} {fs:List Fld} (h:FitsP k t fs):k=0\/k=1\/k=2:=by
 rcases h with (⟨h,_⟩ | ⟨h,_⟩) | ⟨h,_⟩
 · exact .inr (.inl h)
 · exact .inr (.inr h)
 · exact .inl h
set_option maxRecDepth 100000 in
set_option maxHeartbeats 12800000 in
theorem numbersL_any (k:Int) (t:ByteArray) (a:Option Addr) (n cap:Nat) (fs:List Fld) (v:Int) (y:Nat) (w:World) (hv:Am v) (hy:y<18446744073709551616) (hr:RF w a n cap fs) (hN:Nums w) (hY:Lay w) (hF:Flo w) :
   Calls Tryz.prog 3 #[.agg #[.int .i64 k,.string t,.slice a n cap],.int .i64 v,.int .u64 (y:Int)] w fun e w' => e=.returned (.bool true)/\Below w.heap.size w w' := by
 have f1:∀w,(callFunc 9 #[.int .u64 (y:Int)]).run Tryz.prog w=.ok (.value (.float .f64 y)) w:=fun w=>Cb y w
 obtain ⟨W1,hW1⟩:∃W,W=w.alloc (.cells #[.int .i64 k,.string t,.slice a n cap] 24):=⟨_,rfl⟩
 have hb0:Below w.heap.size w W1:=by rw [hW1];exact (Below.refl _ _).alloc (Nat.le_refl _) _
 have g0:W1.cell? ⟨w.heap.size,0,none⟩=some (.int .i64 k):=by rw [hW1,World.cell?_alloc_new];rfl
 have g1:W1.cell? ⟨w.heap.size,1,none⟩=some (.string t):=by rw [hW1,World.cell?_alloc_new];rfl
 have g2:W1.cell? ⟨w.heap.size,2,none⟩=some (.slice a n cap):=by rw [hW1,World.cell?_alloc_new];rfl
 have hblg:Blk W1 w.heap.size:=by rw [hW1];exact Blk.new _ _ _
 have hr1:=hr.below hb0
 have hN1:=hN.below hb0
 have hY1:=hY.below hb0
 have hF1:=hF.below hb0
 replace hW1:=Hd hW1
 replace hr1:=Hd hr1
 replace hN1:=Hd hN1
 replace hY1:=Hd hY1
 replace hF1:=Hd hF1
 replace hv:=Hd hv
 replace hy:=Hd hy
 clear hr hN hY hF hblg
 go_enter Tryz.func3,Tryz.ntmps3
 go_upto_region 1 with fail
 rw [<-hW1.out]
 go_wp2_with fail
 refine (alive09_any W1 hN1.out).mono ?_
 rintro e w1 ⟨rfl,hb1⟩
 replace g0:=Aa hb1 g0
 replace g1:=Aa hb1 g1
 replace g2:=Aa hb1 g2
 go_wp2_with fail
 refine (great_any k t a n cap fs _ (hr1.out.below hb1)).mono ?_
 rintro e w2 ⟨g,rfl,hg,hb2⟩
 have hb12:=hb1.trans (hb2.mono hb1.size)
 have hbw2:=hb0.trans (hb12.mono hb0.size)
 replace g0:=Aa hb2 g0
 replace g1:=Aa hb2 g1
 replace g2:=Aa hb2 g2
 replace hg:=Hd hg
 cases g with
 | true=>
   go_wp2;go_ret;exact ⟨rfl,hbw2⟩
 | false=>
 obtain ⟨hn3,ht3,hm3⟩:=hg.out rfl
 clear hg hm3
 have hn9:n<=100000000:=by omega
 have hn1:n<=1000:=by omega
 obtain ⟨qf,hqf⟩:=bool_of' (FitsP k t fs)
 replace hqf:=Hd hqf
 go_wp2_with fail
 refine (qp_q (fits_any k t a n cap fs _ (hr1.out.below hb12) hn9) hqf.out).mono ?_
 rintro e w3 ⟨rfl,hb3⟩
 have hb13:=hb12.trans (hb3.mono hb12.size)
 have hbw3:=hb0.trans (hb13.mono hb0.size)
 replace g0:=Aa hb3 g0
 replace g1:=Aa hb3 g1
 replace g2:=Aa hb3 g2
 cases qf with
 | false=>
   go_wp2;go_ret;exact ⟨rfl,hbw3⟩
 | true=>
 have hK:=kind_of (hqf.out.1 (by trivial))
 clear hqf
 obtain ⟨k1,t1,fs1,x1,e1,hA⟩:=addR_ex t fs v hK
 obtain ⟨k2,t2,fs2,x2,e2,hQ⟩:=addQ_ex t fs y hK
 replace hA:=Hd hA
 replace hQ:=Hd hQ
 replace hK:=Hd hK
 clear hb1 hb2 hb3 hb12 hbw2
 go_wp2_with fail
 refine (iadd_all (hr1.out.below hb13) hn1 ht3 hv.out (hN1.out.below hb13) hA.out).mono ?_
 rintro e w4 ⟨a4,n4,c4,rfl,hr4,hn4,hb4⟩
 replace g0:=Aa hb4 g0
 replace g1:=Aa hb4 g1
 replace g2:=Aa hb4 g2
 obtain ⟨W5,hW5⟩:∃W,W=w4.alloc (.cells #[.int .i64 k1,.string t1,.slice a4 n4 c4] 24):=⟨_,rfl⟩
 have hb5:Below w4.heap.size w4 W5:=by rw [hW5];exact (Below.refl _ _).alloc (Nat.le_refl _) _
 have s0:W5.cell? ⟨w4.heap.size,0,none⟩=some (.int .i64 k1):=by rw [hW5,World.cell?_alloc_new];rfl
 have s1:W5.cell? ⟨w4.heap.size,1,none⟩=some (.string t1):=by rw [hW5,World.cell?_alloc_new];rfl
 have s2:W5.cell? ⟨w4.heap.size,2,none⟩=some (.slice a4 n4 c4):=by rw [hW5,World.cell?_alloc_new];rfl
 have hbls:Blk W5 w4.heap.size:=by rw [hW5];exact Blk.new _ _ _
 have hb15:=hb13.trans ((hb4.trans (hb5.mono hb4.size)).mono hb13.size)
 have hr4:=hr4.below hb5
 replace g0:=Aa hb5 g0
 replace g1:=Aa hb5 g1
 replace g2:=Aa hb5 g2
 go_upto_region 7 with fail
 rw [<-hW5]
 replace hW5:=Hd hW5
 replace hr4:=Hd hr4
 clear hbls hb4 hb5 hb13 hbw3
 go_wp2_with fail
 refine (radd9_all (hr1.out.below hb15) hn1 ht3 hv.out hK.out hA.out).mono ?_
 rintro e w6 ⟨a6,n6,c6,rfl,hr6,hn6,hb6⟩
 replace g0:=Aa hb6 g0
 replace g1:=Aa hb6 g1
 replace g2:=Aa hb6 g2
 replace s0:=Aa hb6 s0
 replace s1:=Aa hb6 s1
 replace s2:=Aa hb6 s2
 obtain ⟨W7,hW7⟩:∃W,W=w6.alloc (.cells #[.int .i64 k1,.string t1,.slice a6 n6 c6] 24):=⟨_,rfl⟩
 have hb7:Below w6.heap.size w6 W7:=by rw [hW7];exact (Below.refl _ _).alloc (Nat.le_refl _) _
 have u0:W7.cell? ⟨w6.heap.size,0,none⟩=some (.int .i64 k1):=by rw [hW7,World.cell?_alloc_new];rfl
 have u1:W7.cell? ⟨w6.heap.size,1,none⟩=some (.string t1):=by rw [hW7,World.cell?_alloc_new];rfl
 have u2:W7.cell? ⟨w6.heap.size,2,none⟩=some (.slice a6 n6 c6):=by rw [hW7,World.cell?_alloc_new];rfl
 have hblu:Blk W7 w6.heap.size:=by rw [hW7];exact Blk.new _ _ _
 have hb17:=hb15.trans ((hb6.trans (hb7.mono hb6.size)).mono hb15.size)
 have hr4:=hr4.out.below (hb6.trans (hb7.mono hb6.size))
 have hr6:=hr6.below hb7
 replace g0:=Aa hb7 g0
 replace g1:=Aa hb7 g1
 replace g2:=Aa hb7 g2
 replace s0:=Aa hb7 s0
 replace s1:=Aa hb7 s1
 replace s2:=Aa hb7 s2
 go_upto_region 8 with fail
 rw [<-hW7]
 replace hW7:=Hd hW7
 replace hr4:=Hd hr4
 replace hr6:=Hd hr6
 clear hblu hb6 hb7 hb15
 go_wp2_with fail
 refine (areal_all (hr1.out.below hb17) hn1 hy.out (hY1.out.below hb17) (hF1.out.below hb17) hQ.out).mono ?_
 rintro e w8 ⟨a8,n8,c8,rfl,hr8,hn8,hb8⟩
 replace g0:=Aa hb8 g0
 replace g1:=Aa hb8 g1
 replace g2:=Aa hb8 g2
 replace s0:=Aa hb8 s0
 replace s1:=Aa hb8 s1
 replace s2:=Aa hb8 s2
 replace u0:=Aa hb8 u0
 replace u1:=Aa hb8 u1
 replace u2:=Aa hb8 u2
 obtain ⟨W9,hW9⟩:∃W,W=w8.alloc (.cells #[.int .i64 k2,.string t2,.slice a8 n8 c8] 24):=⟨_,rfl⟩
 have hb9:Below w8.heap.size w8 W9:=by rw [hW9];exact (Below.refl _ _).alloc (Nat.le_refl _) _
 have p0:W9.cell? ⟨w8.heap.size,0,none⟩=some (.int .i64 k2):=by rw [hW9,World.cell?_alloc_new];rfl
 have p1:W9.cell? ⟨w8.heap.size,1,none⟩=some (.string t2):=by rw [hW9,World.cell?_alloc_new];rfl
 have p2:W9.cell? ⟨w8.heap.size,2,none⟩=some (.slice a8 n8 c8):=by rw [hW9,World.cell?_alloc_new];rfl
 have hblp:Blk W9 w8.heap.size:=by rw [hW9];exact Blk.new _ _ _
 have hb89:=hb8.trans (hb9.mono hb8.size)
 have hb19:=hb17.trans (hb89.mono hb17.size)
 have hr4:=hr4.out.below hb89
 have hr6:=hr6.out.below hb89
 have hr8:=hr8.below hb9
 replace g0:=Aa hb9 g0
 replace g1:=Aa hb9 g1
 replace g2:=Aa hb9 g2
 replace s0:=Aa hb9 s0
 replace s1:=Aa hb9 s1
 replace s2:=Aa hb9 s2
 replace u0:=Aa hb9 u0
 replace u1:=Aa hb9 u1
 replace u2:=Aa hb9 u2
 go_upto_region 9 with fail
 rw [<-hW9]
 replace hW9:=Hd hW9
 replace hr4:=Hd hr4
 replace hr6:=Hd hr6
 replace hr8:=Hd hr8
 clear hblp hb8 hb9 hb89 hb17
 go_wp2_with fail
 refine (raddr_all (hr1.out.below hb19) hn1 hy.out (hY1.out.below hb19) (hF1.out.below hb19) hQ.out).mono ?_
 rintro e w10 ⟨a10,n10,c10,rfl,hr10,hn10,hb10⟩
 replace s0:=Aa hb10 s0
 replace s1:=Aa hb10 s1
 replace s2:=Aa hb10 s2
 replace u0:=Aa hb10 u0
 replace u1:=Aa hb10 u1
 replace u2:=Aa hb10 u2
 replace p0:=Aa hb10 p0
 replace p1:=Aa hb10 p1
 replace p2:=Aa hb10 p2
 obtain ⟨W11,hW11⟩:∃W,W=w10.alloc (.cells #[.int .i64 k2,.string t2,.slice a10 n10 c10] 24):=⟨_,rfl⟩
 have hb11:Below w10.heap.size w10 W11:=by rw [hW11];exact (Below.refl _ _).alloc (Nat.le_refl _) _
 have q0:W11.cell? ⟨w10.heap.size,0,none⟩=some (.int .i64 k2):=by rw [hW11,World.cell?_alloc_new];rfl
 have q1:W11.cell? ⟨w10.heap.size,1,none⟩=some (.string t2):=by rw [hW11,World.cell?_alloc_new];rfl
 have q2:W11.cell? ⟨w10.heap.size,2,none⟩=some (.slice a10 n10 c10):=by rw [hW11,World.cell?_alloc_new];rfl
 have hblq:Blk W11 w10.heap.size:=by rw [hW11];exact Blk.new _ _ _
 have hb101:=hb10.trans (hb11.mono hb10.size)
 have hb111:=hb19.trans (hb101.mono hb19.size)
 have hr4:=hr4.out.below hb101
 have hr6:=hr6.out.below hb101
 have hr8:=hr8.out.below hb101
 have hr10:=hr10.below hb11
 replace s0:=Aa hb11 s0
 replace s1:=Aa hb11 s1
 replace s2:=Aa hb11 s2
 replace u0:=Aa hb11 u0
 replace u1:=Aa hb11 u1
 replace u2:=Aa hb11 u2
 replace p0:=Aa hb11 p0
 replace p1:=Aa hb11 p1
 replace p2:=Aa hb11 p2
 go_upto_region 10 with fail
 rw [<-hW11]
 replace hW11:=Hd hW11
 replace hr8:=Hd hr8
 replace hr10:=Hd hr10
 have hxx:(x1 == x1)=true:=by simp
 have hee:(e1 == e1)=true:=by simp
 have hx2:(x2 == x2)=true:=by simp
 have he2:(e2 == e2)=true:=by simp
 clear hblq hb10 hb11 hb101 hb19 g0 g1 g2
 go_wp2_with fail
 refine (qp_q (rsame9_any k1 t1 a4 n4 c4 fs1 k1 t1 a6 n6 c6 fs1 _ hr4 hr6 (by omega)) (same_self' k1 t1 fs1)).mono ?_
 rintro e w12 ⟨rfl,hb12⟩
 replace p0:=Aa hb12 p0
 replace p1:=Aa hb12 p1
 replace p2:=Aa hb12 p2
 replace q0:=Aa hb12 q0
 replace q1:=Aa hb12 q1
 replace q2:=Aa hb12 q2
 have hb112:=hb111.trans (hb12.mono hb111.size)
 have hr8:=hr8.out.below hb12
 have hr10:=hr10.out.below hb12
 clear hr4 hr6 hb12 hb111
 go_wp2_with fail
 refine (qp_q (rsame9_any k2 t2 a8 n8 c8 fs2 k2 t2 a10 n10 c10 fs2 _ hr8 hr10 (by omega)) (same_self' k2 t2 fs2)).mono ?_
 rintro e w13 ⟨rfl,hb13⟩
 have hfin:=hb0.trans ((hb112.trans (hb13.mono hb112.size)).mono hb0.size)
 clear s0 s1 s2 u0 u1 u2 p0 p1 p2 q0 q1 q2 hb13 hb112 hr8 hr10
 go_wp2
 go_ret
 exact ⟨by first | rfl | simp,hfin⟩
end Go.Proofs.YteoalcmhdoopnaaGreatDoor
