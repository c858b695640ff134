/- What the statements' arguments read as, opened; no number of this program's stands here. -/
import Derived.Test.YtagkgfniihiinaaGreatDoorJ50
import Derived.ProofKit
import Derived.OpenShut
import Derived.ShutString
import Derived.ChangeOld
import Derived.Deep.Slices
import Derived.Deep.Fields
import Derived.ChangeSame
import Derived.Test.YtagkgfniihiinaaGreatDoorParB
import Derived.Test.YtagkgfniihiinaaGreatDoorJ29
import Derived.Test.YtagkgfniihiinaaGreatDoorJ86
import Derived.Test.YtagkgfniihiinaaGreatDoorJ61
import Derived.Test.YtagkgfniihiinaaGreatDoorJ84
import Derived.Test.YtagkgfniihiinaaGreatDoorJ70
import Derived.Test.YtagkgfniihiinaaGreatDoorJ78
import Derived.Test.YtagkgfniihiinaaGreatDoorProg
import Derived.Laws.LoneSync
import Derived.Defers
import Derived.Tactics2
import Derived.Lib.OthersKept
import Derived.Deep.WholeRow
import Derived.Deep.LoopGhost
import Derived.Lib.ConvBytes
import Derived.Lib.SlBytesRow
import Derived.Test.YtagkgfniihiinaaGreatDoorJ43
set_option linter.all false
namespace Go.Proofs.YtagkgfniihiinaaGreatDoor
open Go.ChangeShapes Go.WideShapes Go.ChangeAt Go.RowKit Go.Deep
section
variable {H:Type} {enc:TypeId × Value->H} {P:Program} {w:World}
theorem F2 {W W' : World} (hl:laidOutB P=true) (hb:Below W.heap.size W W'):∀{ts:List TypeId} {vs:List Value} {ds:List (DataW H)} {ps:List MemPlace},
   (ts.all fun t=>P.readableRec t && decide (t<P.types.size))=true->DataW.TrodAll enc P W 0 (fun _=>true) true ts vs ds ps->DataW.TrodAll enc P W' 0 (fun b=>decide (b<W.heap.size)) true ts vs ds ps
 | [],vs,ds,ps,_,h=>by
   obtain ⟨rfl,rfl,rfl⟩:=trodAll_nil h;exact trodAll_mk0
 | t :: ts,vs,ds,ps,hts,h=>by
   obtain ⟨v,vs', d,ds', p,q,rfl,rfl,rfl,h1,h2⟩:=trodAll_cons h;simp only [List.all_cons,Bool.and_eq_true,decide_eq_true_eq] at hts;refine trodAll_cons_mk (Below.trod hl hts.1.1 hts.1.2 h1 hb ?_) (F2 hl hb (by simpa using hts.2) h2);obtain ⟨m,hm⟩:=h1;exact DataW.trod_lt m _ _ _ hm
theorem Ff {α:Type} {R:Nat->α->Prop}:∀(n:Nat),(∀i,i<n->∃x,R i x)->∃l:List α,l.length=n/\∀i (h:i<l.length),R i l[i]
 | 0,_=>⟨[],rfl,fun i h=>by simp at h⟩
 | n+1,h=>by
   obtain ⟨l,hl,hr⟩:=Ff n (fun i hi=>h i (by omega));obtain ⟨x,hx⟩:=h n (by omega);refine ⟨l++[x],by simp [hl],fun i hi=>?_⟩;by_cases hn:i<l.length
   · rw [List.getElem_append_left hn];exact hr i hn
   · simp at hi
     have:i=l.length:=by omega
     subst this;rw [List.getElem_append_right (by omega)];simpa [hl] using hx
theorem add_plain {ad:Addr} {v:Value} (h:w.cell? (ad.add 0)=some v):∃b o,ad=⟨b,o,none⟩:=by
 cases ad with
 | mk b o s=>
   cases s with
   | none=>exact ⟨b,o,rfl⟩
   | some s=>
     simp [Addr.add,World.cell?] at h;split at h<;>simp at h
theorem add_mk (b o j:Nat):(⟨b,o,none⟩:Addr).add j=⟨b,o+j,none⟩:=by
 unfold Addr.add;split
 · rename_i h;simp [h]
 · rfl
end
end Go.Proofs.YtagkgfniihiinaaGreatDoor
namespace Go.Proofs.YtagkgfniihiinaaGreatDoor
open Go.RowKit
theorem needN_all {need:Nat->List UInt8->Prop} {f:Nat->List UInt8->Out (V × Nat × Nat)} (h:∀m L,need m L):∀(n m:Nat) (L:List UInt8),needN need f n m L
 | 0,_,_=>trivial
 | n+1,m,L=>⟨h m L,fun _ u m' _=>needN_all h n m' (L.drop u)⟩
theorem needV_all {rp:Rp} (h:∀t,rp.K t):∀(lv m:Nat) (L:List UInt8),C6 rp lv m L
 | 0,_,_=>fun _ _ t _ _ _ _=>h t
 | lv+1,m,L=>⟨fun _ _ t _ _ _ _=>h t,fun _ n u _=>needN_all (needV_all h lv) n (m+n) (L.drop u)⟩
structure RpAll (rp:Rp):Prop where
 is:∀t:List UInt8,ParO ⟨t.toArray⟩ (rp t)
 all:∀t,rp.K t
theorem RpAll.lt {rp:Rp} (h:RpAll rp):∀t r,rp t=some r->r<18446744073709551616:=fun t r e=>parO_lt (h.is t) r e
theorem RpAll.real {rp:Rp} (h:RpAll rp) {t:List UInt8} {w:World} (hY:Lay w):Calls Tryz.prog 90 #[.string ⟨t.toArray⟩] w (RealQ (rp t) w):=by
 refine (real_all (h.is t) hY).mono ?_;rintro e w' ⟨rfl,hb⟩;unfold RealQ ParA;cases rp t with
 | none=>exact ⟨⟨_,rfl⟩,hb⟩
 | some r=>exact ⟨rfl,hb⟩
theorem RpAll.env {rp:Rp} (h:RpAll rp) {w:World} {s:ByteArray} (hN:Nums w) (hY:Lay w):Env rp w s:=⟨hN,fun _ hb _ _=>h.real (hY.below hb)⟩
theorem RpAll.need {rp:Rp} (h:RpAll rp) (lv m:Nat) (L:List UInt8):C6 rp lv m L:=needV_all h.all lv m L
open Classical in
noncomputable def rpP:Rp:=⟨fun t=>(parO_ex ⟨t.toArray⟩).choose,fun _=>True⟩
theorem rpP_all:RpAll rpP:=⟨fun t=>(parO_ex ⟨t.toArray⟩).choose_spec,fun _=>trivial⟩
end Go.Proofs.YtagkgfniihiinaaGreatDoor
namespace Go.Proofs.YtagkgfniihiinaaGreatDoor
open Go.ChangeShapes Go.WideShapes Go.ChangeAt Go.RowKit
theorem cheat_rows:∀k:Fin 61,1<=k.val->Go.Pinned.cheatRows[k.val]?=some (Cv k.val,Lib.decDigits (5 ^ k.val)):=by decide +kernel
theorem cheat_len:Go.Pinned.cheatRows.length=61:=by decide +kernel
theorem cheats_of {W : World} (h : laidMet Tryz.prog [("internal/strconv.leftcheats", Go.Pinned.leftcheats)] W) :
   ∃(b:Addr) (c:Nat),W.cell? ⟨9,0,none⟩=some (.slice (some b) 61 c)/\∀k,1<=k->k<=60->W.cell? (b.add (k * 2))=some (.int .i64 (Cv k:Int))/\W.cell? ⟨(b.add (k * 2)).block,(b.add (k * 2)).off+1,none⟩=some (.string (cutS k)):=by
 obtain ⟨ps,⟨g', t', cs,fuel,p,q,hg', ht', hvar,hd,_,_⟩,_⟩:=h
 obtain rfl : 9 = g' := Option.some.inj ((show Tryz.prog.globalNamed "internal/strconv.leftcheats" = some 9 by kernel_rfl).symm.trans hg')
 obtain rfl:296=t' := Option.some.inj ((show (Tryz.prog.globals[9]?).map (·.type)=some 296 by kernel_rfl).symm.trans ht')
 have hc2:Tryz.prog.cellsOf 295=2:=by kernel_rfl
 have hc1:Tryz.prog.cellsOf 3=1:=by kernel_rfl
 have hcs:Tryz.prog.cellsOf 9=1:=by kernel_rfl
 rcases DataW.trod_slice Tryz.underlying296 hd with ⟨_,h2⟩ | ⟨a,len,cap,elems,rest,n,rfl,h1,h2,hb,hlc,hcm,hel,hat,_,_⟩
 · have:=congrArg Prod.fst h2
   cases this
 · have hem:elems.map (·.1)=Go.Pinned.cheatRows.map fun x=>(DataW.agg [.lit (.int .i64 x.1),.lit (.string x.2)]:DataW Unit):=by
     have:=congrArg Prod.fst h2;unfold Go.Pinned.leftcheats at this;simp only [DataW.slice.injEq] at this;exact this.1.symm
   have hl61:len=61:=by
     have:=congrArg List.length hem;rw [List.length_map,List.length_map,hel,cheat_len] at this;exact this
   rw [hc2] at hat;refine ⟨a,cap,?_,fun k k1 k2=>?_⟩
   · rw [World.var?_cell hg' hvar 0,<-Array.getElem?_toList,h1,hl61];rfl
   · have h3:=hat k (by omega)
     have h4:(elems.map (·.1))[k]?=some (DataW.agg [.lit (.int .i64 (Cv k)),.lit (.string (Lib.decDigits (5 ^ k)))]):=by
       rw [hem,List.getElem?_map,cheat_rows ⟨k,by omega⟩ k1];rfl
     rw [List.getElem?_map,Option.map_eq_some_iff] at h4;obtain ⟨y,hy,hy1⟩:=h4;rw [hy,Option.bind_eq_some_iff] at h3;obtain ⟨l,hl,ht⟩:=h3;obtain ⟨y0,y1,m,rfl,hll,hf0,hf1⟩:=trod_struct2 Tryz.underlying295 ht;simp only [DataW.agg.injEq,List.cons.injEq,and_true] at hy1;obtain ⟨v0,e0,e1,_⟩:=DataW.trod_int Tryz.underlying3 hf0;obtain ⟨v1,e2,e3,_⟩:=DataW.trod_string Tryz.underlying9 hf1;have q0:v0=Cv k:=by
       have:=hy1.1;rw [e1] at this;simpa using this
     have q1:v1=cutS k:=by
       have:=hy1.2;rw [e3] at this;have h9:v1.data.toList=Lib.decDigits (5 ^ k):=by simpa using this
       unfold cutS;exact ByteArray.ext (by rw [<-h9])
     rw [hc1] at e0;rw [hcs] at e2;obtain ⟨_,hlen,hcell⟩:=World.cells?_some hl;have c0:l[0]?=some (.int .i64 v0):=by
       have:=congrArg (·[0]?) e0
       simpa using this
     have c1:l[1]?=some (.string v1):=by
       have:=congrArg (·[0]?) e2
       simpa using this
     have d0:=hcell 0 (by omega);have d1:=hcell 1 (by omega);rw [c0,q0] at d0;rw [c1,q1] at d1;exact ⟨d0,d1⟩
theorem pt_rows:∀i:Fin 9,ptL[i.val]?=some (pt i.val):=by decide +kernel
theorem pts_of {W : World} (h : laidMet Tryz.prog [("internal/strconv.powtab", .slice (ptL.map fun z => .lit (.int .i64 ((z : Nat) : Int))) [])] W) :
   ∃(b:Addr) (c:Nat),W.cell? ⟨13,0,none⟩=some (.slice (some b) 9 c)/\∀i,i<9->W.cell? (b.add i)=some (.int .i64 (pt i:Int)):=by
 obtain ⟨ps,⟨g', t', cs,fuel,p,q,hg', ht', hvar,hd,_,_⟩,_⟩:=h
 obtain rfl : 13 = g' := Option.some.inj ((show Tryz.prog.globalNamed "internal/strconv.powtab" = some 13 by kernel_rfl).symm.trans hg')
 obtain rfl:49=t' := Option.some.inj ((show (Tryz.prog.globals[13]?).map (·.type)=some 49 by kernel_rfl).symm.trans ht')
 have hc1:Tryz.prog.cellsOf 3=1:=by kernel_rfl
 rcases DataW.trod_slice Tryz.underlying49 hd with ⟨_,h2⟩ | ⟨a,len,cap,elems,rest,n,rfl,h1,h2,hb,hlc,hcm,hel,hat,_,_⟩
 · have:=congrArg Prod.fst h2
   cases this
 · have hem:elems.map (·.1)=ptL.map fun z=>(DataW.lit (.int .i64 ((z:Nat):Int)):DataW Unit):=by
     have:=congrArg Prod.fst h2;simp only [DataW.slice.injEq] at this;exact this.1.symm
   have hl9:len=9:=by
     have:=congrArg List.length hem;rw [List.length_map,List.length_map,hel] at this;exact this
   rw [hc1] at hat;refine ⟨a,cap,?_,fun i hi=>?_⟩
   · rw [World.var?_cell hg' hvar 0,<-Array.getElem?_toList,h1,hl9];rfl
   · have h3:=hat i (by omega)
     have h4:(elems.map (·.1))[i]?=some (DataW.lit (.int .i64 (pt i))):=by rw [hem,List.getElem?_map,pt_rows ⟨i,hi⟩];rfl
     rw [List.getElem?_map,Option.map_eq_some_iff] at h4;obtain ⟨y,hy,hy1⟩:=h4;rw [hy,Option.bind_eq_some_iff] at h3;obtain ⟨l,hl,ht⟩:=h3;obtain ⟨v,h5,h6,_⟩:=DataW.trod_int Tryz.underlying3 ht;have h7:v=pt i:=by rw [h6] at hy1;simpa using hy1
     rw [h5,h7,Nat.mul_one] at hl;exact cell_of_cells?_one hl
theorem info3_of {W : World} (h : laidMet Tryz.prog [("internal/strconv.float64info", .agg [.lit (.int .u64 52), .lit (.int .u64 11), .lit (.int .i64 (-1023))])] W) :
   W.cell? ⟨7,0,none⟩=some (.int .u64 52)/\W.cell? ⟨7,1,none⟩=some (.int .u64 11)/\W.cell? ⟨7,2,none⟩=some (.int .i64 (-1023)):=by
 obtain ⟨ps,⟨g', t', cs,fuel,p,q,hg', ht', hvar,hd,_,_⟩,_⟩:=h
 obtain rfl : 7 = g' := Option.some.inj ((show Tryz.prog.globalNamed "internal/strconv.float64info" = some 7 by kernel_rfl).symm.trans hg')
 obtain rfl:267=t' := Option.some.inj ((show (Tryz.prog.globals[7]?).map (·.type)=some 267 by kernel_rfl).symm.trans ht')
 have hc1:Tryz.prog.cellsOf 83=1:=by kernel_rfl
 have hc2:Tryz.prog.cellsOf 3=1:=by kernel_rfl
 obtain ⟨y0,y1,y2,n,hyy,hyl,hf0,hf1,hf2⟩:=Go.Deep.trod_struct3 Tryz.underlying267 hd
 have hym:[y0.1,y1.1,y2.1]=[DataW.lit (.int .u64 52),.lit (.int .u64 11),.lit (.int .i64 (-1023))]:=by
   have:=congrArg Prod.fst hyy;simp only [DataW.agg.injEq] at this;exact this.symm
 simp only [List.cons.injEq,and_true] at hym
 obtain ⟨v0,e0,g0,_⟩:=DataW.trod_int Tryz.underlying83 hf0
 obtain ⟨v1,e1,g1,_⟩:=DataW.trod_int Tryz.underlying83 hf1
 obtain ⟨v2,e2,g2,_⟩:=DataW.trod_int Tryz.underlying3 hf2
 have q0:v0=52:=by have:=hym.1;rw [g0] at this;simpa using this
 have q1:v1=11:=by have:=hym.2.1;rw [g1] at this;simpa using this
 have q2:v2=-1023:=by have:=hym.2.2;rw [g2] at this;simpa using this
 rw [hc1] at e0 e1
 rw [hc2] at e2
 have c0:cs[0]?=some (.int .u64 v0):=by
   rw [<-Array.getElem?_toList];have:=congrArg (·[0]?) e0
   simpa using this
 have c1:cs[1]?=some (.int .u64 v1):=by
   rw [<-Array.getElem?_toList];have:=congrArg (·[0]?) e1
   simpa using this
 have c2:cs[2]?=some (.int .i64 v2):=by
   rw [<-Array.getElem?_toList];have:=congrArg (·[0]?) e2
   simpa using this
 refine ⟨?_,?_,?_⟩
 · rw [World.var?_cell hg' hvar 0,c0,q0]
 · rw [World.var?_cell hg' hvar 1,c1,q1]
 · rw [World.var?_cell hg' hvar 2,c2,q2]
theorem slow_of {W:World} {laid:List (String × DataW Unit)} (h0:laidMetH Tryz.prog laid W) (hp:(laid.all fun x=>x.2.handleName?.isNone)=true)
   (e1 : laid.filter (fun x => x.1 == "internal/strconv.leftcheats") = [("internal/strconv.leftcheats", Go.Pinned.leftcheats)])
   (e2 : laid.filter (fun x => x.1 == "internal/strconv.float64info") = [("internal/strconv.float64info", .agg [.lit (.int .u64 52), .lit (.int .u64 11), .lit (.int .i64 (-1023))])])
   (e3 : laid.filter (fun x => x.1 == "internal/strconv.powtab") = [("internal/strconv.powtab", .slice (ptL.map fun z => .lit (.int .i64 ((z : Nat) : Int))) [])]) : Slow W := by
 rw [MakeChecks.laidMetH_plain _ _ _ hp] at h0
 have h1 := h0.filter (fun x => x.1 == "internal/strconv.leftcheats")
 have h2 := h0.filter (fun x => x.1 == "internal/strconv.float64info")
 have h3 := h0.filter (fun x => x.1 == "internal/strconv.powtab")
 rw [e1] at h1
 rw [e2] at h2
 rw [e3] at h3
 obtain ⟨a,b,c⟩:=info3_of h2
 exact ⟨cheats_of h1,pts_of h3,a,b,c⟩
end Go.Proofs.YtagkgfniihiinaaGreatDoor
namespace Go.Proofs.YtagkgfniihiinaaGreatDoor
open Go.RowKit
def ScQ (out:Out (V × Nat × Nat)) (w:World) (e:Ending) (w' : World):Prop:=match out with
 | .stop q=>StopZ q w e w'
 | .got (v,u,m)=>∃(a:Option Addr) (ca:Nat),e=.returned (.tuple #[.agg #[.int .i64 v.kind,.string v.text,.int .i64 v.int,.float .f64 v.real,.bool v.flag,.slice a v.list.length ca],.int .i64 (u:Int),.int .i64 (m:Int),.int .i64 0]) /\
     RV (A5 w.heap.size w') (An v.kind v.text v.int v.real v.flag a v.list.length ca) v/\Below w.heap.size w w'
structure LS5 (w wr:World) (D:Nat) (kk:Int) (lv:Value) (css:List (List Value)) (lj:List V):Prop where
 two:Two w wr 0 ⟨#[]⟩ 0 0 false
 own:wr.ownsRow (D+1) 26 6 lv lj.length css.flatten
 vals:RVs (nf (D+1) lv.ownBlock wr) css lj
 full:wr.rangeAt D 0 [.int .i64 kk,.string ⟨#[]⟩,.int .i64 0,.float .f64 0,.bool false,lv]
 blk:Blk wr D
 base:w.heap.size+2<=D
theorem LS5.below {w wr w' : World} {D:Nat} {kk:Int} {lv:Value} {css:List (List Value)} {lj:List V} (h:LS5 w wr D kk lv css lj) (hb:Below wr.heap.size wr w'):LS5 w w' D kk lv css lj:=
 ⟨h.two.move hb,Et h.own (Fr.of_below hb) (fun k hk hle=>by have:=(Au h.own k hk).2;omega),h.vals.mono (nf_below hb),D6 hb h.full,h.blk.of_block (hb.block _ h.blk.lt),h.base⟩
namespace R2
set_option maxRecDepth 100000 in
set_option maxHeartbeats 6400000 in
theorem scan5_list {rp:Rp} {w:World} {s:ByteArray} {u nn:Nat} {t:List UInt8} {f:Nat->List UInt8->Out (V × Nat × Nat)} (h0:0<s.size) (hs:s.size<=1000000) (hk:Ac (s[0]'h0)=5\/Ac (s[0]'h0)=12\/Ac (s[0]'h0)=13\/Ac (s[0]'h0)=14) (hl:Aw (s.data.toList.drop 1)=.got (t,u)) (hm:¬(t=[45,49]/\(Ac (s[0]'h0)=4\/Ac (s[0]'h0)=5)))
   {n many d:Nat} (hn:numS t 1000=some n) (hnn:nn=if Ac (s[0]'h0)=12 then 2 * n else n) (hmn:many+nn<=1000) (hd:d<8) (h14:¬(Ac (s[0]'h0)=14/\(nn=0\/0<d)))
   (hval:∀(W:World) (s' : ByteArray) (m' : Nat),Below w.heap.size w W->s'.size<=1000000->m' <= 1000->Calls Tryz.prog 47 #[.string s', .int .i64 ((d:Int)+1),.int .i64 (m' : Int)] W (ScQ (f m' s'.data.toList) W))
   (hfm:∀(m:Nat) (L:List UInt8) (v:V) (u m' : Nat),f m L=.got (v,u,m')->u<=L.length/\(m<=1000->m' <= 1000))
   {R:Out (V × Nat × Nat)} (hH:R=(match Ba f nn (many+nn) ((s.data.toList.drop 1).drop u) with
     | .stop e=>.stop e
     | .got (l,u2,m2)=>.got (.mk (Ac (s[0]'h0)) ⟨#[]⟩ 0 0 false l,(1+u)+u2,m2))) :
   Calls Tryz.prog 47 #[.string s,.int .i64 (d:Int),.int .i64 (many:Int)] w (ScQ R w):=by
 have hl0:=hl
 have hU9:1+u<=s.size:=by
   have h1:=(A7 hl).1;rw [List.length_drop,Array.length_toList] at h1;have h2:s.data.size=s.size:=rfl;omega
 rw [List.drop_drop,show 1+u=u+1 by omega] at hH
 have hlinks:=Links.start (need:=fun _ _=>True) (f:=f) (D:=s.data.toList) (at_:=u+1) (n:=nn) (m:=many+nn) (needN_all (fun _ _=>trivial) _ _ _)
 obtain ⟨res,hres⟩:∃res,res=Ba f nn (many+nn) (s.data.toList.drop (u+1)):=⟨_,rfl⟩
 rw [<-hres] at hlinks hH
 have hUz:((u+1:Nat):Int)<=(s.size:Int):=by omega
 obtain ⟨c,hc⟩:∃c,s[0]'h0=c:=⟨_,rfl⟩
 rw [hc] at hk
 have hkc:=C1 c
 have h0i:(0:Int)<(s.size:Int):=by omega
 have h1i:(1:Int)<=(s.size:Int):=by omega
 obtain ⟨j1,j3,j4⟩:=Bl h0
 obtain ⟨T,hT⟩:∃T,T=s.extract 1 s.size:=⟨_,rfl⟩
 have hTs:T.size<=1000000:=by rw [hT,ByteArray.size_extract];omega
 have hln:=Dc hTs
 have hTl:T.data.toList=s.data.toList.drop 1:=by rw [hT];exact C9
 have hul:=(A7 hl).1
 rw [List.length_drop,Array.length_toList] at hul
 have hul9:s.data.size=s.size:=rfl
 obtain ⟨U,hU⟩:∃U,U=u+1:=⟨_,rfl⟩
 have hu1:IntKind.i64.wrap ((u:Int)+1)=(U:Int):=by rw [IntWalk.i64_in _ (by omega)];omega
 try rw [<-hU]
 replace hU:=Hd hU
 rw [hTl,hl] at hln
 unfold lineA at hln
 have hT2:=hT.symm
 dsimp only at hln
 replace hln:=Hd hln
 replace hkc:=Hd hkc
 clear hTl hl hTs hT hul hul9
 rw [<-hU.out] at hlinks hUz hH
 clear hU9
 rw [hc] at hm hnn h14 hH
 obtain ⟨k,hkk⟩:∃k,k=Ac c:=⟨_,rfl⟩
 rw [<-hkk] at hk hkc
 try rw [<-hkk] at hm
 try rw [<-hkk] at hp
 try rw [<-hkk] at hH
 try rw [<-hkk] at hnn
 try rw [<-hkk] at h14
 clear hkk
 obtain ⟨tb,htb⟩:∃tb:ByteArray,tb=⟨t.toArray⟩:=⟨_,rfl⟩
 have htl:tb.data.toList=t:=by rw [htb]
 have htz:tb.size<=1000000:=by
   have h1:=(A7 hl0).2.2;rw [<-htl,Array.length_toList] at h1;have h2:tb.data.size=tb.size:=rfl;omega
 rw [<-htb] at hln
 have hny:((tb.toList == [45,49])=false)\/((tb.toList == [45,49])=true/\((k:Int) == 4)=false/\((k:Int) == 5)=false):=by
   cases h9:(tb.toList == [45,49]) with
   | false=>exact .inl rfl
   | true=>
     refine .inr ⟨rfl,?_⟩;have h8:=eq_of_beq h9;rw [ByteArray.toList_eq,htl] at h8;have h7:¬(k=4\/k=5):=fun e=>hm ⟨h8,e⟩;exact ⟨by rw [beq_eq_false_iff_ne];omega,by rw [beq_eq_false_iff_ne];omega⟩
 clear htb
 replace hny:=Hd hny
 replace hm:=Hd hm
 replace htl:=Hd htl
 replace hl0:=Hd hl0
 try replace hH:=Hd hH
 have hnm:=fun W=>Eb (w:=W) (t:=tb) (most:=1000) htz (by decide)
 rw [htl.out] at hnm
 unfold numI at hnm
 rw [hn] at hnm
 have hn4:=numS_leG hn
 dsimp only at hnm
 have hls:=Bd (k:Int)
 have hkl:Ak (k:Int)=true:=by unfold Ak;rw [decide_eq_true_iff];omega
 rw [hkl] at hls
 replace hls:=Hd hls
 replace hnm:=Hd hnm
 replace hfm:=Hd hfm
 replace hval:=Hd hval
 replace hlinks:=Hd hlinks
 replace hres:=Hd hres
 clear hn
 have h2:=Two.start w 0 ⟨#[]⟩ 0 0 false
 obtain ⟨W2,hW2⟩:∃W,W=(w.alloc (.cells #[.int .i64 0,.string ⟨#[]⟩,.int .i64 0,.float .f64 0,.bool false,.slice none 0 0] 26)).alloc (.cells #[.int .i64 0,.string ⟨#[]⟩,.int .i64 0,.float .f64 0,.bool false,.slice none 0 0] 26):=⟨_,rfl⟩
 rw [<-hW2] at h2
 replace hW2:=Hd hW2
 replace h2:=Hd h2
 go_enter Tryz.func47,Tryz.ntmps47
 go_upto_region 2 with fail
 rw [<-hW2.out]
 clear hW2
 go_wp2_with fail
 refine (hkc.out _).mono ?_
 rintro e w3 ⟨rfl,hww⟩
 have h3:=h2.out
 rw [<-hww] at h3
 clear h2 hww
 go_wp2_with fail
 refine (hln.out _).mono ?_
 rintro e w3 ⟨rfl,hww⟩
 rw [<-hww] at h3
 clear hww
 replace h3:=Hd h3
 go_upto_region 11 with fail
 go_cut [59] from 51 to 59 (fun s5 wx=>s5=.bool false/\wx=w3)
 case first=>
   rcases hny.out with y1 | ⟨y1,c4,c5⟩
   · go_wp2_with fail
     go_meet
     exact ⟨rfl,rfl⟩
   · go_wp2_with fail
     go_meet
     exact ⟨rfl,rfl⟩
 obtain ⟨rfl,hww⟩:=hcut
 obtain rfl:=hww.symm
 clear hww
 clear hny
 go_upto_region 13 with fail
 go_cut [72] from 64 to 72 (fun s5 wx=>s5=.bool false/\wx=w3)
 case first=>
   have c4:((k:Int) == 4)=false:=by rw [beq_eq_false_iff_ne];omega
   have c10:((k:Int) == 10)=false:=by rw [beq_eq_false_iff_ne];omega
   have c11:((k:Int) == 11)=false:=by rw [beq_eq_false_iff_ne];omega
   go_wp2_with fail
   go_meet
   exact ⟨rfl,rfl⟩
 obtain ⟨rfl,hww⟩:=hcut
 obtain rfl:=hww.symm
 clear hww
 go_wp2_with fail
 refine (hls.out _).mono ?_
 rintro e w4 ⟨rfl,hww⟩
 obtain rfl:=hww.symm
 clear hww hls
 go_wp2_with fail
 refine (hnm.out _).mono ?_
 rintro e w4 ⟨rfl,hb⟩
 have h4:=h3.out.move hb
 clear h3 hb hnm
 obtain ⟨w3,hw3⟩:∃w3,w3=w4:=⟨_,rfl⟩
 rw [<-hw3] at h4 ⊢
 clear hw3
 have h3:=h4
 clear h4
 replace h3:=Hd h3
 have hn0:¬(n:Int)<0:=by omega
 have hd8:¬(8:Int)<=(d:Int):=by omega
 replace hnn:=Hd hnn
 obtain ⟨p12,hp12⟩:∃p:Bool,p=decide (k=12):=⟨_,rfl⟩
 replace hp12:=Hd hp12
 go_upto_region 30 with fail
 go_cut [147] from 147 to 147 (fun s5 wx=>s5=.bool p12/\wx=w3)
 case first=>
   rcases hk with rfl | rfl | rfl | rfl
   · obtain rfl:p12=false:=hp12.out
     go_wp2_with fail
     go_meet
     exact ⟨rfl,rfl⟩
   · obtain rfl:p12=true:=hp12.out
     go_wp2_with fail
     go_meet
     exact ⟨rfl,rfl⟩
   · obtain rfl:p12=false:=hp12.out
     go_wp2_with fail
     go_meet
     exact ⟨rfl,rfl⟩
   · obtain rfl:p12=false:=hp12.out
     go_wp2_with fail
     go_meet
     exact ⟨rfl,rfl⟩
 obtain ⟨rfl,hww⟩:=hcut
 obtain rfl:=hww.symm
 clear hww
 go_upto_if 147 with fail
 go_cut [20] from 20 to 149 (fun s5 wx=>s5=.int .i64 (nn:Int)/\wx=w3)
 case first=>
   cases p12 with
   | false=>
     have h1:¬k=12:=of_decide_eq_false hp12.out.symm;have hnn9:=hnn.out;rw [if_neg h1] at hnn9;subst hnn9;go_wp2_with fail
     go_meet
     exact ⟨rfl,rfl⟩
   | true=>
     have h1:k=12:=of_decide_eq_true hp12.out.symm;have hnn9:=hnn.out;rw [if_pos h1] at hnn9;have hw2:IntKind.i64.wrap (2 * (n:Int))=(nn:Int):=by rw [IntWalk.i64_in _ (by omega)];omega
     replace hnn9:=Hd hnn9;go_wp2_with fail
     go_meet
     exact ⟨by first | rfl | (rw [hw2]) | (simp [hw2]),rfl⟩
 obtain ⟨rfl,hww⟩:=hcut
 obtain rfl:=hww.symm
 clear hww
 replace hk:=Hd hk
 obtain ⟨M,hM⟩:∃M,M=many+nn:=⟨_,rfl⟩
 have hw3:IntKind.i64.wrap ((many:Int)+(nn:Int))=(M:Int):=by rw [IntWalk.i64_in _ (by omega)];omega
 have hmm:¬(1000:Int)<(M:Int):=by omega
 have hd8:¬(8:Int)<=(d:Int):=by omega
 rw [<-hM] at hlinks
 replace hM:=Hd hM
 go_upto_region 32 with fail
 go_upto_region 33 with fail
 go_cut [170] from 154 to 170 (fun s5 wx=>s5=.bool false/\wx=w3)
 case first=>
   by_cases hk14:k=14
   · have h15:¬(nn=0\/0<d):=fun e=>h14 ⟨hk14,e⟩
     subst hk14;have z1:((nn:Int) == 0)=false:=by rw [beq_eq_false_iff_ne];omega
     obtain rfl:d=0:=by omega
     go_wp2_with fail
     go_meet
     exact ⟨rfl,rfl⟩
   · have c14:((k:Int) == 14)=false:=by rw [beq_eq_false_iff_ne];omega
     go_wp2_with fail
     go_meet
     exact ⟨rfl,rfl⟩
 obtain ⟨rfl,hww⟩:=hcut
 obtain rfl:=hww.symm
 clear hww
 clear h14
 have hth:=A2 w3 26
 have hnv:=Bp w3 26 [.int .i64 (k:Int),.string ⟨#[]⟩,.int .i64 0,.float .f64 0,.bool false,.slice none 0 0] rfl
 replace hth:=Hd hth
 replace hnv:=Hd hnv
 have tok1:True:=trivial
 go_upto_region 36 with (have _t:=tok1;refine wpList_store_mid rfl 26 _ _ rfl w3.heap.size 0 _ rfl rfl hth.out Ab (one6 _ _ _ _ _ _ _ _) ?_;clear tok1 _t)
 generalize (w3.alloc (.cells #[Value.int .i64 0,.string ⟨#[]⟩,.int .i64 0,.float .f64 0,.bool false,.slice none 0 0] 26)).setCells w3.heap.size 0 [Value.int .i64 (k:Int),.string ⟨#[]⟩,.int .i64 0,.float .f64 0,.bool false,.slice none 0 0]=w5 at hnv ⊢
 obtain ⟨hb5,hr5,hk5⟩:=hnv.out
 have hls0:LS5 w w5 w3.heap.size (k:Int) (.slice none 0 0) [] []:=⟨h3.out.move hb5,World.ownsRow_nil _ _ _ _,RVs.nil _,hr5,hk5,h3.out.blk1.lt⟩
 obtain ⟨D,hD⟩:∃D,D=w3.heap.size:=⟨_,rfl⟩
 rw [<-hD] at hls0 ⊢
 clear hnv hth hb5 hr5 hk5 h3
 replace hD:=Hd hD
 replace hls0:=Hd hls0
 clear hw3 hmm
 go_wp2_with fail
 go_loopw [2,13,22] (fun mv uv iv wr=>∃(j uj mj:Nat) (lj:List V) (lv:Value) (css:List (List Value)),j<=nn/\mv=.int .i64 (mj:Int)/\uv=.int .i64 ((U+uj:Nat):Int)/\iv=.int .i64 (j:Int)/\lj.length=j/\mj<=1000/\U+uj<=s.size/\LS5 w wr D (k:Int) lv css lj/\Links (fun _ _=>True) f res s.data.toList U (nn - j) uj mj lj) (fun _ _ iv _=>nn - (intOf iv).toNat)
 case atStart=>exact ⟨0,0,M,[],_,[],Nat.zero_le _,rfl,rfl,rfl,rfl,by have:=hM.out;omega,by omega,hls0.out,hlinks.out⟩
 case round=>
   obtain ⟨j,uj,mj,lj,lv,css,hj,rfl,rfl,rfl,hlj,hmj,hP0,hls,hlk⟩:=hrel;obtain ⟨P,hP⟩:∃P,P=U+uj:=⟨_,rfl⟩;rw [<-hP] at hP0 ⊢;by_cases hlt:j<nn
   · obtain ⟨ae,ce,rfl⟩:=(Reads.of_owns hls.own).shape
     obtain ⟨lft,hlf⟩:∃lft,nn - j=lft+1:=⟨nn - j - 1,by omega⟩;rw [hlf] at hlk;have hlti:(j:Int)<(nn:Int):=by omega
     have hPi:(P:Int)<=(s.size:Int):=by omega
     have hwd:IntKind.i64.wrap ((d:Int)+1)=(d:Int)+1:=IntWalk.i64_in _ (by omega);have hwj:IntKind.i64.wrap ((j:Int)+1)=((j+1:Nat):Int):=by rw [IntWalk.i64_in _ (by omega)];rfl
     obtain ⟨T9,hT9⟩:∃T9,s.extract P s.size=T9:=⟨_,rfl⟩;have hT9l:T9.data.toList=s.data.toList.drop P:=by rw [<-hT9];exact Ei s P
     have hT9z:T9.size<=1000000:=by rw [<-hT9,ByteArray.size_extract];omega
     have hcall:=hval.out wr T9 mj hls.two.below hT9z hmj;rw [hT9l] at hcall;cases hfo:f mj (s.data.toList.drop P) with
     | stop q=>
       rw [hfo] at hcall;rw [hP] at hfo;have hre:=hlk.stop hfo;have hHe:=hH.out;rw [hre] at hHe;dsimp only at hHe;subst hHe;clear hH hlk hre hfo hT9l;obtain ⟨z,hz⟩:∃z:Int,z=if q=51 then 2 else 1:=⟨_,rfl⟩;have z0:(z == 0)=false:=by rw [hz];split<;>rfl
       have z1:(z != 0)=true:=by simp [bne,z0]
       have hcall2:Calls Tryz.prog 47 #[.string T9,.int .i64 ((d:Int)+1),.int .i64 (mj:Int)] wr (fun e w' => ∃x y:Int,e=.returned (.tuple #[.agg #[.int .i64 0,.string ⟨#[]⟩,.int .i64 0,.float .f64 0,.bool false,.slice none 0 0],.int .i64 x,.int .i64 y,.int .i64 z])/\Below wr.heap.size wr w'):=by rw [hz];exact hcall
       clear hcall;replace hcall2:=Hd hcall2;replace hz:=Hd hz;replace hls:=Hd hls;replace hP:=Hd hP;go_wp2_with fail
       refine hcall2.out.mono ?_;rintro e w4 ⟨X,Y,rfl,hb4⟩;clear hcall2;have hth:=A2 w4 26;have hnv:=Bp w4 26 [.int .i64 0,.string ⟨#[]⟩,.int .i64 0,.float .f64 0,.bool false,.slice none 0 0] rfl;replace hth:=Hd hth;replace hnv:=Hd hnv;have tok1:True:=trivial;go_upto_region 40 with (have _t:=tok1;refine wpList_store_mid rfl 26 _ _ rfl w4.heap.size 0 _ rfl rfl hth.out Ab (one6 _ _ _ _ _ _ _ _) ?_;clear tok1 _t)
       generalize (w4.alloc (.cells #[Value.int .i64 0,.string ⟨#[]⟩,.int .i64 0,.float .f64 0,.bool false,.slice none 0 0] 26)).setCells w4.heap.size 0 [Value.int .i64 0,.string ⟨#[]⟩,.int .i64 0,.float .f64 0,.bool false,.slice none 0 0]=W4 at hnv ⊢;obtain ⟨hb5,hr6,_⟩:=hnv.out;obtain ⟨G,hG⟩:∃G,G=w4.heap.size:=⟨_,rfl⟩;rw [<-hG] at hr6 ⊢;have hb45:=hb4.trans (hb5.mono hb4.size);replace hG:=Hd hG;clear hnv hth;obtain ⟨w3,hw3⟩:∃w3,w3=W4:=⟨_,rfl⟩;have h3:=hls.out.two.move hb45;rw [<-hw3] at h3 ⊢;clear hw3 hb45 hr6 hb4 hb5 hls;have hrR:(w3.setCells w.heap.size 0 [.int .i64 0,.string (⟨#[]⟩:ByteArray),.int .i64 0,.float .f64 0,.bool false,.slice none 0 0]).rangeAt w.heap.size 0 [.int .i64 0,.string (⟨#[]⟩:ByteArray),.int .i64 0,.float .f64 0,.bool false,.slice none 0 0]:=
         World.rangeAt_setCells_same _ _ _ _ (Ae (n:=6) h3.zero h3.blk rfl)
       have htC:=Ae (n:=6) h3.zero h3.blk rfl;have hfu:=h3.full;have hbl:Below w.heap.size w (w3.setCells w.heap.size 0 [.int .i64 0,.string (⟨#[]⟩:ByteArray),.int .i64 0,.float .f64 0,.bool false,.slice none 0 0]):=
         h3.below.trans ((Fr.setCells (S:=fun k=>k=w.heap.size) (fun _=>rfl) _ _ _ (Fr.refl _ w3)).below h3.below.size (fun i hi h=>by omega))
       replace hrR:=Hd hrR;replace htC:=Hd htC;replace hfu:=Hd hfu;replace hbl:=Hd hbl;replace h3:=Hd h3
       go_wp2_with (first
         | (refine wpList_load_mid rfl 26 _ rfl (w.heap.size+1) 0 rfl _ _ hfu.out Tryz.underlying26 rfl Ab ?_)
         | (refine wpList_store_mid rfl 26 _ _ rfl w.heap.size 0 _ rfl rfl htC.out Ab (one6 _ _ _ _ _ _ _ _) ?_))
       refine bodyPost_ret (Al (v:=.agg #[.int .i64 0,.string (⟨#[]⟩:ByteArray),.int .i64 0,.float .f64 0,.bool false,.slice none 0 0]) rfl rfl (run_loadVar_mid (P:=Tryz.prog) _ _ 0 26 _ _ hrR.out Tryz.underlying26 rfl Ab)) rfl ?_;exact ⟨0,0,by rw [hz.out];rfl,hbl.out⟩
     | got r=>
       obtain ⟨x,u1,m1⟩:=r;rw [hfo] at hcall;rw [hP] at hfo;have hlk2:=hlk.next hfo;obtain ⟨hu1,hm1⟩:=hfm.out _ _ _ _ _ hfo;rw [List.length_drop,Array.length_toList] at hu1;have hss:s.data.size=s.size:=rfl;rw [show lft=nn - (j+1) by omega] at hlk2;replace hm1:=hm1 hmj;have hPu:U+(uj+u1)<=s.size:=by omega
       have hwu:IntKind.i64.wrap ((P:Int)+(u1:Int))=((U+(uj+u1):Nat):Int):=by rw [IntWalk.i64_in _ (by omega)];omega
       have hcall2:Calls Tryz.prog 47 #[.string T9,.int .i64 ((d:Int)+1),.int .i64 (mj:Int)] wr (fun e w' => ∃(a:Option Addr) (ca:Nat),e=.returned (.tuple #[.agg #[.int .i64 x.kind,.string x.text,.int .i64 x.int,.float .f64 x.real,.bool x.flag,.slice a x.list.length ca],.int .i64 (u1:Int),.int .i64 (m1:Int),.int .i64 0]) /\
         RV (A5 wr.heap.size w') (An x.kind x.text x.int x.real x.flag a x.list.length ca) x/\Below wr.heap.size wr w'):=hcall
       clear hcall hfo hlk hT9l hu1 hss;have hjn9:lj.length<1000000000:=by omega
       replace hcall2:=Hd hcall2;replace hls:=Hd hls;replace hP:=Hd hP;replace hlk2:=Hd hlk2;replace hlj:=Hd hlj;go_wp2_with fail
       refine hcall2.out.mono ?_;rintro e w4 ⟨ax,cx,rfl,hrv,hb4⟩;clear hcall2;have hth:=A2 w4 26;have hnv:=Bp w4 26 [.int .i64 x.kind,.string x.text,.int .i64 x.int,.float .f64 x.real,.bool x.flag,.slice ax x.list.length cx] rfl;replace hth:=Hd hth;replace hnv:=Hd hnv;have tok1:True:=trivial;go_upto_region 40 with (have _t:=tok1;refine wpList_store_mid rfl 26 _ _ rfl w4.heap.size 0 _ rfl rfl hth.out Ab (one6 _ _ _ _ _ _ _ _) ?_;clear tok1 _t)
       generalize (w4.alloc (.cells #[Value.int .i64 0,.string ⟨#[]⟩,.int .i64 0,.float .f64 0,.bool false,.slice none 0 0] 26)).setCells w4.heap.size 0 [Value.int .i64 x.kind,.string x.text,.int .i64 x.int,.float .f64 x.real,.bool x.flag,.slice ax x.list.length cx]=W4 at hnv ⊢;obtain ⟨hb5,hr6,_⟩:=hnv.out;obtain ⟨G,hG⟩:∃G,G=w4.heap.size:=⟨_,rfl⟩;rw [<-hG] at hr6 ⊢;have hb45:=hb4.trans (hb5.mono hb4.size);replace hG:=Hd hG;clear hnv hth;have hls4:=hls.out.below hb45;have hxv:=hrv.mono (D2 hb5);have hDr:D+1<=wr.heap.size:=hls.out.blk.lt;have hob:∀q,(Value.slice ae lj.length ce).ownBlock=some q->q<wr.heap.size:=fun q hq=>(Au hls.out.own q hq).2;have hDl:D<W4.heap.size:=hls4.blk.lt;have hrow:=hls4.own;have hrvs:=hls4.vals;have hblk:=hls4.blk;have hc5:W4.cell? ⟨D,5,none⟩=some (.slice ae lj.length ce):=by have:=hls4.full 5 _ rfl;simpa using this
       have hDo:¬(Value.slice ae lj.length ce).ownBlock=some D:=fun e=>by have:=(Au hrow D e).1;omega
       clear hrv hb4 hb5 hb45;replace hls4:=Hd hls4;replace hrow:=Hd hrow;replace hrvs:=Hd hrvs;replace hblk:=Hd hblk;replace hc5:=Hd hc5;replace hxv:=Hd hxv;replace hr6:=Hd hr6;replace hob:=Hd hob;clear hls;have hx1:=hxv.out.mono (E4 (B:=D+1) (own:=(Value.slice ae lj.length ce).ownBlock) hDr hob.out);have hrow2:=hrow.out;have hob2:=Au hrow2;have hDs:D+1<=W4.heap.size:=hDl;replace hob2:=Hd hob2;replace hx1:=Hd hx1;have hc52:=hc5.out;have tok2:True:=trivial;have tok3:True:=trivial
       go_wp2_with (first
         | (have _t:=tok2;refine wpList_load_mid rfl 26 _ rfl G 0 rfl _ _ hr6.out Tryz.underlying26 rfl Ab ?_;clear tok2 _t)
         | (at_builtin;have _t:=tok3;refine Du rfl rfl eVal rfl hrow2 rfl rfl rfl hjn9 hDs ?_;clear tok3 _t))
       intro v9 w9 hown9 hf9 hn9;have hc59:=hf9.cell (p:=⟨D,5,none⟩) hc52 hDo;have hk59:=(hblk.out.fr hf9 hDo);have z59:=hk59.frz 5 none;obtain ⟨a9,c9,rfl⟩:=(Reads.of_owns hown9).shape;obtain ⟨W9,hW9⟩:∃W9,W9=w9.setCell ⟨D,5,none⟩ (.slice a9 (lj.length+1) c9):=⟨_,rfl⟩;have hfs:Fr (fun k=>k=D) w9 W9:=by rw [hW9];exact Fr.setCell (S:=fun k=>k=D) (Fr.refl _ _) (fun _=>rfl) _
       have hls9:LS5 w W9 D (k:Int) (.slice a9 (lj.length+1) c9) (css++[An x.kind x.text x.int x.real x.flag ax x.list.length cx]) (lj++[x]):=by
         have hn1:∀i,i<D->¬(Value.slice ae lj.length ce).ownBlock=some i:=fun i hi e=>by have:=(hob2.out i e).1;omega
         have hb9:Below D w9 W9:=hfs.below (by have:=hf9.size;omega) (fun i hi e=>by omega);have hb49:Below D W4 w9:=hf9.below (by omega) hn1;have hb499:=hb49.trans (hb9.mono (Nat.le_refl _));have hbs:=hls4.out.base
         have htwo:Two w W9 0 ⟨#[]⟩ 0 0 false:=⟨fun q y hq=>by rw [hb499.cell (show w.heap.size<D by omega)];exact hls4.out.two.zero q y hq,fun q y hq=>by rw [hb499.cell (show w.heap.size+1<D by omega)];exact hls4.out.two.full q y hq,
           hls4.out.two.blk.of_block (hb499.block _ (by omega)),hls4.out.two.blk1.of_block (hb499.block _ (by omega)),hls4.out.two.below.trans (hb499.mono (by omega))⟩
         refine ⟨htwo,?_,?_,?_,?_,hbs⟩
         · rw [List.length_append,List.flatten_append]
           simpa [An] using Et hown9 hfs (fun q hq e=>by have:=(Au hown9 q hq).1;omega)
         · exact ((hrvs.out.snoc hx1.out).mono (nf_append hf9 hn9)).mono (fun ad u h=>let ⟨h1,h2,h3⟩:=Gl h;nf_mk (w:=W9) (hfs.cell h1 (fun e=>by omega)) h2 h3)
         · have hk0:∀q u,q≠5->W4.cell? ⟨D,q,none⟩=some u->W9.cell? ⟨D,q,none⟩=some u:=fun q u hq hu=>by
             rw [hW9,Ad (fun e=>hq (congrArg Addr.off e).symm)];exact hf9.cell hu hDo
           exact range6 (hk0 _ _ (by omega) (by simpa using hls4.out.full 0 _ rfl)) (hk0 _ _ (by omega) (by simpa using hls4.out.full 1 _ rfl)) (hk0 _ _ (by omega) (by simpa using hls4.out.full 2 _ rfl)) (hk0 _ _ (by omega) (by simpa using hls4.out.full 3 _ rfl)) (hk0 _ _ (by omega) (by simpa using hls4.out.full 4 _ rfl)) (by rw [hW9];exact Am hc59)
         · rw [hW9];exact hk59.setCell _ _
       have hjl:(lj++[x]).length=j+1:=by rw [List.length_append,hlj.out];rfl
       replace hls9:=Hd hls9;replace hjl:=Hd hjl;clear hf9 hn9 hown9 hfs hrow hrow2 hrvs hx1 hxv hblk hob hob2 hr6 hls4 hc5 hc52 hk59;go_upto_region 43 with fail
       rw [<-hW9];replace hW9:=Hd hW9;clear hc59 z59;go_wp2_with fail
       go_roundw
       case rel=>exact ⟨j+1,uj+u1,m1,lj++[x],_,_,by omega,rfl,by first | rfl | go_num,by first | rfl | go_num,hjl.out,hm1,hPu,hls9.out,hlk2.out⟩
       case measure=>simp [intOf];omega
   · have hlti:¬(j:Int)<(nn:Int):=by omega
     have hje:nn - j=0:=by omega
     rw [hje] at hlk;have hre:=hlk.last;obtain ⟨a3,c3,rfl⟩:=(Reads.of_owns hls.own).shape;have hHe:=hH.out;rw [hre] at hHe;dsimp only at hHe;subst hHe;have hrv:=RV.of_row (v:=.mk (k:Int) ⟨#[]⟩ 0 0 false lj) rfl hls.own (hls.vals.mono nf_newer);have hrv2:=hrv.mono (E7 (x:=w.heap.size) (w' := wr.setCells w.heap.size 0 [.int .i64 (k:Int),.string ⟨#[]⟩,.int .i64 0,.float .f64 0,.bool false,.slice a3 lj.length c3]) (Fr.setCells (S:=fun k=>k=w.heap.size) (fun _=>rfl) _ _ _ (Fr.refl _ wr)) (by have:=hls.base;omega));obtain ⟨w3,hw3⟩:∃w3,w3=wr:=⟨_,rfl⟩;have h3:=hls.two;have hr6:=hls.full;rw [<-hw3] at h3 hr6 hrv2 ⊢;replace hr6:=Hd hr6;replace hrv2:=Hd hrv2;clear hw3 hls hlk hre hrv hH;replace hlj:=Hd hlj;replace hP:=Hd hP
     have hrR:(w3.setCells w.heap.size 0 [.int .i64 (k:Int),.string ⟨#[]⟩,.int .i64 0,.float .f64 0,.bool false,.slice a3 lj.length c3]).rangeAt w.heap.size 0 [.int .i64 (k:Int),.string ⟨#[]⟩,.int .i64 0,.float .f64 0,.bool false,.slice a3 lj.length c3]:=
       World.rangeAt_setCells_same _ _ _ _ (Ae (n:=6) h3.zero h3.blk rfl)
     have htC:=Ae (n:=6) h3.zero h3.blk rfl;have hbl:Below w.heap.size w (w3.setCells w.heap.size 0 [.int .i64 (k:Int),.string ⟨#[]⟩,.int .i64 0,.float .f64 0,.bool false,.slice a3 lj.length c3]):=
       h3.below.trans ((Fr.setCells (S:=fun k=>k=w.heap.size) (fun _=>rfl) _ _ _ (Fr.refl _ w3)).below h3.below.size (fun i hi h=>by omega))
     replace hrR:=Hd hrR;replace htC:=Hd htC;replace hbl:=Hd hbl;replace h3:=Hd h3
     go_wp2_with (first
       | (refine wpList_load_mid rfl 26 _ rfl D 0 rfl _ _ hr6.out Tryz.underlying26 rfl Ab ?_)
       | (refine wpList_store_mid rfl 26 _ _ rfl w.heap.size 0 _ rfl rfl htC.out Ab (one6 _ _ _ _ _ _ _ _) ?_))
     refine bodyPost_ret (Al (v:=.agg #[.int .i64 (k:Int),.string ⟨#[]⟩,.int .i64 0,.float .f64 0,.bool false,.slice a3 lj.length c3]) rfl rfl (run_loadVar_mid (P:=Tryz.prog) _ _ 0 26 _ _ hrR.out Tryz.underlying26 rfl Ab)) rfl ?_;exact ⟨a3,c3,by rw [<-hP.out];rfl,hrv2.out,hbl.out⟩
end R2
end Go.Proofs.YtagkgfniihiinaaGreatDoor
