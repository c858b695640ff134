/- What the statements' arguments read as, opened; no number. -/
import Derived.Test.YtagkgfniihiinaaGreatDoorJ94
import Derived.Test.YtagkgfniihiinaaGreatDoorJ61
set_option linter.all false
set_option maxHeartbeats 6400000
namespace Go.Proofs.YtagkgfniihiinaaGreatDoor
open Go.ChangeShapes Go.WideShapes Go.ChangeAt Go.RowKit Go.Deep
section
variable {H:Type} {enc:TypeId × Value->H} {P:Program} {w:World}
theorem trodAll_below {W W' : World} (hl:laidOutB P=true) (hb:Below W.heap.size W W'):∀{ts:List TypeId} {vs:List Value} {ds:List (DataW H)} {ps:List MemPlace},
  (ts.all fun t=>P.readableRec t && decide (t<P.types.size))=true->DataW.TrodAll enc P W 0 (fun _=>true) true ts vs ds ps->DataW.TrodAll enc P W' 0 (fun b=>decide (b<W.heap.size)) true ts vs ds ps
 | [],vs,ds,ps,_,h=>by
  obtain ⟨rfl,rfl,rfl⟩:=trodAll_nil h;exact trodAll_mk0
 | t :: ts,vs,ds,ps,hts,h=>by
  obtain ⟨v,vs', d,ds', p,q,rfl,rfl,rfl,h1,h2⟩:=trodAll_cons h;simp only [List.all_cons,Bool.and_eq_true,decide_eq_true_eq] at hts;refine trodAll_cons_mk (Below.trod hl hts.1.1 hts.1.2 h1 hb ?_) (trodAll_below hl hb (by simpa using hts.2) h2);obtain ⟨m,hm⟩:=h1;exact DataW.trod_lt m _ _ _ hm
theorem Gm {α:Type} {R:Nat->α->Prop}:∀(n:Nat),(∀i,i<n->∃x,R i x)->∃l:List α,l.length=n/\∀i (h:i<l.length),R i l[i]
 | 0,_=>⟨[],rfl,fun i h=>by simp at h⟩
 | n+1,h=>by
  obtain ⟨l,hl,hr⟩:=Gm n (fun i hi=>h i (by omega));obtain ⟨x,hx⟩:=h n (by omega);refine ⟨l++[x],by simp [hl],fun i hi=>?_⟩;by_cases hn:i<l.length
  ·rw [List.getElem_append_left hn];exact hr i hn
  ·simp at hi
   have:i=l.length:=by omega
   subst this;rw [List.getElem_append_right (by omega)];simpa [hl] using hx
theorem add_plain {ad:Addr} {v:Value} (h:w.cell? (ad.add 0)=some v):∃b o,ad=⟨b,o,none⟩:=by
 cases ad with
 | mk b o s=>
  cases s with
  | none=>exact ⟨b,o,rfl⟩
  | some s=>
   simp [Addr.add,World.cell?] at h;split at h<;>simp at h
theorem add_mk (b o j:Nat):(⟨b,o,none⟩:Addr).add j=⟨b,o+j,none⟩:=by
 unfold Addr.add;split
 ·rename_i h;simp [h]
 ·rfl
end
theorem trod_float' {H:Type} {enc:TypeId × Value->H} {P:Program} {w:World} {base:Nat} {spare:Nat->Bool} {held:Bool} {fuel:Nat} {t:TypeId} {cs:List Value} {x:DataW H × List MemPlace} {k:FloatKind} (ht:P.underlying t=some (.float k))
  (h:DataW.trod enc P w base spare held fuel t cs=some x):∃b,cs=[.float k b]:=by
 cases fuel with
 | zero=>simp [DataW.trod] at h
 | succ n=>
  unfold DataW.trod at h;rw [ht] at h;split at h<;>simp_all
theorem six_of {cs:List Value} (h:cs.length=6):∃a b c d e f,cs=[a,b,c,d,e,f]:=by
 match cs,h with
 | [a,b,c,d,e,f],_=>exact ⟨a,b,c,d,e,f,rfl⟩
theorem sizedL_of {l:List V} (h:∀x∈l,x.sized):V.sizedL l:=by
 induction l with
 | nil=>trivial
 | cons y l ih=>exact ⟨h y (by simp),ih fun x hx=>h x (by simp [hx])⟩
end Go.Proofs.YtagkgfniihiinaaGreatDoor
namespace Go.Proofs.YtagkgfniihiinaaGreatDoor
open Go.RowKit
theorem needN_all {need:Nat->List UInt8->Prop} {f:Nat->List UInt8->Out (V × Nat × Nat)} (h:∀m L,need m L):∀(n m:Nat) (L:List UInt8),needN need f n m L
 | 0,_,_=>trivial
 | n+1,m,L=>⟨h m L,fun _ u m' _=>needN_all h n m' (L.drop u)⟩
theorem needV_all {rp:Rp} (h:∀t,rp.K t):∀(lv m:Nat) (L:List UInt8),Dj rp lv m L
 | 0,_,_=>fun _ _ t _ _ _ _=>h t
 | lv+1,m,L=>⟨fun _ _ t _ _ _ _=>h t,fun _ n u _=>needN_all (needV_all h lv) n (m+n) (L.drop u)⟩
structure RpAll (rp:Rp):Prop where
 is:∀t:List UInt8,ParO ⟨t.toArray⟩ (rp t)
 all:∀t,rp.K t
theorem RpAll.lt {rp:Rp} (h:RpAll rp):∀t r,rp t=some r->r<18446744073709551616:=fun t r e=>parO_lt (h.is t) r e
theorem RpAll.real {rp:Rp} (h:RpAll rp) {t:List UInt8} {w:World} (hY:Lay w):Calls Tryz.prog 90 #[.string ⟨t.toArray⟩] w (RealQ (rp t) w):=by
 refine (real_all (h.is t) hY).mono ?_;rintro e w' ⟨rfl,hb⟩;unfold RealQ ParA;cases rp t with
 | none=>exact ⟨⟨_,rfl⟩,hb⟩
 | some r=>exact ⟨rfl,hb⟩
theorem RpAll.env {rp:Rp} (h:RpAll rp) {w:World} {s:ByteArray} (hN:Nums w) (hY:Lay w):Env rp w s:=⟨hN,fun _ hb _ _=>h.real (hY.below hb)⟩
theorem RpAll.need {rp:Rp} (h:RpAll rp) (lv m:Nat) (L:List UInt8):Dj rp lv m L:=needV_all h.all lv m L
end Go.Proofs.YtagkgfniihiinaaGreatDoor
namespace Go.Proofs.YtagkgfniihiinaaGreatDoor
open Go.ChangeShapes Go.WideShapes Go.ChangeAt Go.RowKit Go.Deep
theorem trod_floatW {H:Type} {enc:TypeId × Value->H} {P:Program} {w:World} {base:Nat} {spare:Nat->Bool} {held:Bool} {fuel:Nat} {t:TypeId} {cs:List Value} {x:DataW H × List MemPlace} (ht:P.underlying t=some (.float .f64))
  (h:DataW.trod enc P w base spare held fuel t cs=some x):∃b,cs=[.float .f64 b]/\b<18446744073709551616:=by
 obtain ⟨b,rfl⟩:=trod_float' ht h;refine ⟨b,rfl,?_⟩;cases fuel with
 | zero=>simp [DataW.trod] at h
 | succ n=>
  unfold DataW.trod at h;simp only [ht,Lit.wf,true_and,decide_eq_true_eq] at h;split at h
  ·assumption
  ·cases h
theorem open_valueG {H:Type} {enc:TypeId × Value->H} {w:World}:∀(fuel:Nat) (cs:List Value) (x:DataW H × List MemPlace),DataW.trod enc Tryz.prog w 0 (fun _=>true) true fuel 26 cs=some x ->
  ∃(v:V) (a:Option Addr) (cap:Nat),cs=Ao v.kind v.text v.int v.real v.flag a v.list.length cap/\RV w.cell? cs v/\v.sized/\v.ranged:=by
 intro fuel;induction fuel using Nat.strongRecOn with
 | ind fuel ih=>
 intro cs x h;obtain ⟨xs,n,rfl,hx,z,ai,hf⟩:=DataW.trod_struct Tryz.underlying26 h;have hC:Tryz.prog.cellsOf 26=6:=by kernel_rfl
 rw [hC] at z;obtain ⟨c0,c1,c2,c3,c4,c5,rfl⟩:=six_of z;have g:∀i (hi:i<xs.length),xs[i]?=some xs[i]:=fun i hi=>List.getElem?_eq_getElem hi;have hx6:xs.length=6:=ai;have l:∀(i:Nat) (f:Field) (c:Value),_->Tryz.prog.cellsOf f.type=1->(([c0,c1,c2,c3,c4,c5]:List Value).drop f.offset).take 1=[c]->DataW.trod enc Tryz.prog w 0 (fun _=>true) true n f.type [c]=xs[i]?:=fun i f c h1 h2 h3=>by
  have:=hf i f h1;rw [h2,h3] at this;exact this
 have f0:DataW.trod enc Tryz.prog w 0 (fun _=>true) true n 3 [c0]=some xs[0]:=(l 0 _ c0 rfl (by kernel_rfl) rfl).trans (g 0 (by omega));have f1:DataW.trod enc Tryz.prog w 0 (fun _=>true) true n 9 [c1]=some xs[1]:=(l 1 _ c1 rfl (by kernel_rfl) rfl).trans (g 1 (by omega));have f2:DataW.trod enc Tryz.prog w 0 (fun _=>true) true n 2 [c2]=some xs[2]:=(l 2 _ c2 rfl (by kernel_rfl) rfl).trans (g 2 (by omega));have f3:DataW.trod enc Tryz.prog w 0 (fun _=>true) true n 23 [c3]=some xs[3]:=(l 3 _ c3 rfl (by kernel_rfl) rfl).trans (g 3 (by omega));have f4:DataW.trod enc Tryz.prog w 0 (fun _=>true) true n 4 [c4]=some xs[4]:=(l 4 _ c4 rfl (by kernel_rfl) rfl).trans (g 4 (by omega));have f5:DataW.trod enc Tryz.prog w 0 (fun _=>true) true n 24 [c5]=some xs[5]:=(l 5 _ c5 rfl (by kernel_rfl) rfl).trans (g 5 (by omega));obtain ⟨k,e0,_⟩:=DataW.trod_int Tryz.underlying3 f0
 obtain ⟨t,e1,_,s⟩:=DataW.trod_string Tryz.underlying9 f1;have s:t.size<=9223372036854775807:=s;obtain ⟨i,e2,_,ab⟩:=DataW.trod_int Tryz.underlying2 f2;have e:-9223372036854775808<=i/\i<=9223372036854775807:=by
  rw [Lit.wf,Bool.and_eq_true,decide_eq_true_eq,decide_eq_true_eq] at ab;exact ab
 obtain ⟨r,e3,aa⟩:=trod_floatW Tryz.underlying23 f3;obtain ⟨b,e4,_⟩:=DataW.trod_bool Tryz.underlying4 f4;simp only [List.cons.injEq,and_true] at e0 e1 e2 e3 e4;subst e0;subst e1;subst e2;subst e3;subst e4;rcases DataW.trod_slice Tryz.underlying24 f5 with ⟨e5,_⟩ | ⟨ad,ac,cap,elems,rest,m,rfl,e5,_,_,hlc,_,hel,hi,_⟩
 ·simp only [List.cons.injEq,and_true] at e5
  subst e5;exact ⟨.mk k t i r b [],none,0,rfl,RV.leaf _ _ _ _ _ _ _ _,(V.sized_eq _).2 ⟨s,trivial⟩,(V.ranged_eq _).2 ⟨e.1,e.2,aa,trivial⟩⟩
 ·simp only [List.cons.injEq,and_true] at e5
  subst e5;rw [hC] at hi;obtain ⟨ps,ae,o⟩:=Gm (R:=fun j (p:List Value × V)=>w.cells? 0 (ad.add (j * 6)) 6=some p.1/\RV w.cell? p.1 p.2/\p.2.sized/\p.2.ranged) ac (fun j hj=>by
   have h1:=hi j hj;rw [List.getElem?_eq_getElem (by omega)] at h1;obtain ⟨af, h2,h3⟩:=Option.bind_eq_some_iff.1 h1;obtain ⟨v,_,_,_,hv,aj⟩:=ih m (by omega) af _ h3;exact ⟨(af, v),h2,hv,aj⟩)
  refine ⟨.mk k t i r b (ps.map (·.2)),some ad,cap,by simp [Ao,V.kind,V.text,V.int,V.real,V.flag,V.list,ae],RV.mk k t i r b (some ad) ac cap (ps.map (·.2)) (ps.map (·.1)) (by simp [ae]) (by simp) (fun j x hx=>?_) (fun j x y hx hy=>?_),(V.sized_eq _).2 ⟨s,sizedL_of fun x hx=>?_⟩,(V.ranged_eq _).2 ⟨e.1,e.2,aa,rangedL_of fun x hx=>?_⟩⟩
  ·obtain ⟨p,hp,rfl⟩:=List.mem_map.1 (List.mem_of_getElem? hx)
   rw [List.getElem?_map] at hx;obtain ⟨p', ak, al⟩:=Option.map_eq_some_iff.1 hx;obtain ⟨d,rfl⟩:=List.getElem?_eq_some_iff.1 ak;obtain ⟨_,h6,am⟩:=World.cells?_some (o j d).1;have ah:=o 0 (by omega);obtain ⟨_,h60', ag⟩:=World.cells?_some ah.1;have e0:w.cell? (ad.add 0)=some (ps[0].1[0]'(by omega)):=by
    have:=ag 0 (by omega);rw [List.getElem?_eq_getElem (by omega)] at this;simpa [Addr.add] using this
   obtain ⟨b0,o0,rfl⟩:=add_plain e0;refine ⟨b0,o0,rfl,fun q u hu=>?_⟩;rw [<-al] at hu;have hq:q<6:=by have:=(List.getElem?_eq_some_iff.1 hu).1;omega
   have:=am q hq;rw [add_mk,add_mk,hu] at this;exact this
  ·rw [List.getElem?_map] at hx hy
   obtain ⟨p,hp,rfl⟩:=Option.map_eq_some_iff.1 hx;rw [hp] at hy;simp at hy;subst hy;obtain ⟨d,rfl⟩:=List.getElem?_eq_some_iff.1 hp;exact (o j d).2.1
  ·obtain ⟨p,hp,rfl⟩:=List.mem_map.1 hx
   obtain ⟨j,d,rfl⟩:=List.getElem_of_mem hp;exact (o j d).2.2.1
  ·obtain ⟨p,hp,rfl⟩:=List.mem_map.1 hx
   obtain ⟨j,d,rfl⟩:=List.getElem_of_mem hp;exact (o j d).2.2.2
end Go.Proofs.YtagkgfniihiinaaGreatDoor
namespace Go.Proofs.YtagkgfniihiinaaGreatDoor
open Go.RowKit
def ScQ (out:Out (V × Nat × Nat)) (w:World) (e:Ending) (w' : World):Prop:=match out with
 | .stop q=>StopZ q w e w'
 | .got (v,u,m)=>∃(a:Option Addr) (ca:Nat),e=.returned (.tuple #[.agg #[.int .i64 v.kind,.string v.text,.int .i64 v.int,.float .f64 v.real,.bool v.flag,.slice a v.list.length ca],.int .i64 (u:Int),.int .i64 (m:Int),.int .i64 0]) /\
   RV (Bh w.heap.size w') (Ao v.kind v.text v.int v.real v.flag a v.list.length ca) v/\Below w.heap.size w w'
structure LS5 (w wr:World) (D:Nat) (kk:Int) (lv:Value) (css:List (List Value)) (lj:List V):Prop where
 two:Two w wr 0 ⟨#[]⟩ 0 0 false
 own:wr.ownsRow (D+1) 26 6 lv lj.length css.flatten
 vals:RVs (nf (D+1) lv.ownBlock wr) css lj
 full:wr.rangeAt D 0 [.int .i64 kk,.string ⟨#[]⟩,.int .i64 0,.float .f64 0,.bool false,lv]
 blk:Blk wr D
 base:w.heap.size+2<=D
theorem LS5.below {w wr w' : World} {D:Nat} {kk:Int} {lv:Value} {css:List (List Value)} {lj:List V} (h:LS5 w wr D kk lv css lj) (hb:Below wr.heap.size wr w'):LS5 w w' D kk lv css lj:=
 ⟨h.two.move hb,owns_fr h.own (Fr.of_below hb) (fun k hk hle=>by have:=(Au h.own k hk).2;omega),h.vals.mono (nf_below hb),Aj hb h.full,h.blk.of_block (hb.block _ h.blk.lt),h.base⟩
namespace R2
set_option maxRecDepth 100000 in
theorem scan5_list {rp:Rp} {w:World} {s:ByteArray} {u nn:Nat} {t:List UInt8} {f:Nat->List UInt8->Out (V × Nat × Nat)} (h0:0<s.size) (hs:s.size<=1000000) (hk:Ab (s[0]'h0)=5\/Ab (s[0]'h0)=12\/Ab (s[0]'h0)=13\/Ab (s[0]'h0)=14) (hl:Az (s.data.toList.drop 1)=.got (t,u)) (hm:¬(t=[45,49]/\(Ab (s[0]'h0)=4\/Ab (s[0]'h0)=5)))
  {n many d:Nat} (hn:numS t 1000=some n) (hnn:nn=if Ab (s[0]'h0)=12 then 2 * n else n) (hmn:many+nn<=1000) (hd:d<8) (h14:¬(Ab (s[0]'h0)=14/\(nn=0\/0<d)))
  (hval:∀(W:World) (s' : ByteArray) (m' : Nat),Below w.heap.size w W->s'.size<=1000000->m' <= 1000->Calls Tryz.prog 47 #[.string s', .int .i64 ((d:Int)+1),.int .i64 (m' : Int)] W (ScQ (f m' s'.data.toList) W))
  (hfm:∀(m:Nat) (L:List UInt8) (v:V) (u m' : Nat),f m L=.got (v,u,m')->u<=L.length/\(m<=1000->m' <= 1000))
  {R:Out (V × Nat × Nat)} (hH:R=(match Bg f nn (many+nn) ((s.data.toList.drop 1).drop u) with
   | .stop e=>.stop e
   | .got (l,u2,m2)=>.got (.mk (Ab (s[0]'h0)) ⟨#[]⟩ 0 0 false l,(1+u)+u2,m2))) :
  Calls Tryz.prog 47 #[.string s,.int .i64 (d:Int),.int .i64 (many:Int)] w (ScQ R w):=by
 have br:=hl;have ch:1+u<=s.size:=by
  have h1:=(Bb hl).1;rw [List.length_drop,Array.length_toList] at h1;have h2:s.data.size=s.size:=rfl;omega
 rw [List.drop_drop,show 1+u=u+1 by omega] at hH;have ab:=Links.start (need:=fun _ _=>True) (f:=f) (D:=s.data.toList) (at_:=u+1) (n:=nn) (m:=many+nn) (needN_all (fun _ _=>trivial) _ _ _);obtain ⟨res,hres⟩:∃res,res=Bg f nn (many+nn) (s.data.toList.drop (u+1)):=⟨_,rfl⟩;rw [<-hres] at ab hH;have ci:((u+1:Nat):Int)<=(s.size:Int):=by omega
 obtain ⟨c,hc⟩:∃c,s[0]'h0=c:=⟨_,rfl⟩;rw [hc] at hk;have bf:=Dg c;have h0i:(0:Int)<(s.size:Int):=by omega
 have h1i:(1:Int)<=(s.size:Int):=by omega
 obtain ⟨j1,j3,j4⟩:=Bw h0;obtain ⟨T,hT⟩:∃T,T=s.extract 1 s.size:=⟨_,rfl⟩;have bz:T.size<=1000000:=by rw [hT,ByteArray.size_extract];omega
 have au:=D2 bz;have b0:T.data.toList=s.data.toList.drop 1:=by rw [hT];exact D1
 have b1:=(Bb hl).1;rw [List.length_drop,Array.length_toList] at b1;have b2:s.data.size=s.size:=rfl;obtain ⟨U,hU⟩:∃U,U=u+1:=⟨_,rfl⟩;have bs:IntKind.i64.wrap ((u:Int)+1)=(U:Int):=by rw [IntWalk.i64_in _ (by omega)];omega
 try rw [<-hU]
 replace hU:=Hd hU;rw [b0,hl] at au;unfold lineA at au;have hT2:=hT.symm;dsimp only at au;replace au:=Hd au;replace bf:=Hd bf;clear b0 hl bz hT b1 b2;rw [<-hU.out] at ab ci hH;clear ch;rw [hc] at hm hnn h14 hH;obtain ⟨k,hkk⟩:∃k,k=Ab c:=⟨_,rfl⟩;rw [<-hkk] at hk bf;try rw [<-hkk] at hm
 try rw [<-hkk] at hp
 try rw [<-hkk] at hH
 try rw [<-hkk] at hnn
 try rw [<-hkk] at h14
 clear hkk;obtain ⟨tb,htb⟩:∃tb:ByteArray,tb=⟨t.toArray⟩:=⟨_,rfl⟩;have a6:tb.data.toList=t:=by rw [htb]
 have cj:tb.size<=1000000:=by
  have h1:=(Bb br).2.2;rw [<-a6,Array.length_toList] at h1;have h2:tb.data.size=tb.size:=rfl;omega
 rw [<-htb] at au;have bg:((tb.toList == [45,49])=false)\/((tb.toList == [45,49])=true/\((k:Int) == 4)=false/\((k:Int) == 5)=false):=by
  cases h9:(tb.toList == [45,49]) with
  | false=>exact .inl rfl
  | true=>
   refine .inr ⟨rfl,?_⟩;have h8:=eq_of_beq h9;rw [ByteArray.toList_eq,a6] at h8;have h7:¬(k=4\/k=5):=fun e=>hm ⟨h8,e⟩;exact ⟨by rw [beq_eq_false_iff_ne];omega,by rw [beq_eq_false_iff_ne];omega⟩
 clear htb;replace bg:=Hd bg;replace hm:=Hd hm;replace a6:=Hd a6;replace br:=Hd br;try replace hH:=Hd hH
 have an:=fun W=>Ff (w:=W) (t:=tb) (most:=1000) cj (by decide);rw [a6.out] at an;unfold numI at an;rw [hn] at an;have hn4:=numS_leG hn;dsimp only at an;have g:=Bk (k:Int);have ck:Al (k:Int)=true:=by unfold Al;rw [decide_eq_true_iff];omega
 rw [ck] at g;replace g:=Hd g;replace an:=Hd an;replace hfm:=Hd hfm;replace hval:=Hd hval;replace ab:=Hd ab;replace hres:=Hd hres;clear hn;have h2:=Two.start w 0 ⟨#[]⟩ 0 0 false;obtain ⟨W2,hW2⟩:∃W,W=(w.alloc (.cells #[.int .i64 0,.string ⟨#[]⟩,.int .i64 0,.float .f64 0,.bool false,.slice none 0 0] 26)).alloc (.cells #[.int .i64 0,.string ⟨#[]⟩,.int .i64 0,.float .f64 0,.bool false,.slice none 0 0] 26):=⟨_,rfl⟩;rw [<-hW2] at h2;replace hW2:=Hd hW2;replace h2:=Hd h2
 go_enter Tryz.func47,Tryz.ntmps47
 go_upto_region 2 with fail
 rw [<-hW2.out];clear hW2;go_wp2_with fail
 refine (bf.out _).mono ?_;rintro e w3 ⟨rfl,aa⟩;have h3:=h2.out;rw [<-aa] at h3;clear h2 aa;go_wp2_with fail
 refine (au.out _).mono ?_;rintro e w3 ⟨rfl,aa⟩;rw [<-aa] at h3;clear aa;replace h3:=Hd h3;go_upto_region 11 with fail
 go_cut [59] from 51 to 59 (fun s5 wx=>s5=.bool false/\wx=w3)
 case first=>
  rcases bg.out with y1 | ⟨y1,c4,c5⟩
  ·go_wp2_with fail
   go_meet
   exact ⟨rfl,rfl⟩
  ·go_wp2_with fail
   go_meet
   exact ⟨rfl,rfl⟩
 obtain ⟨rfl,aa⟩:=hcut;obtain rfl:=aa.symm;clear aa;clear bg;go_upto_region 13 with fail
 go_cut [72] from 64 to 72 (fun s5 wx=>s5=.bool false/\wx=w3)
 case first=>
  have c4:((k:Int) == 4)=false:=by rw [beq_eq_false_iff_ne];omega
  have c10:((k:Int) == 10)=false:=by rw [beq_eq_false_iff_ne];omega
  have c11:((k:Int) == 11)=false:=by rw [beq_eq_false_iff_ne];omega
  go_wp2_with fail
  go_meet
  exact ⟨rfl,rfl⟩
 obtain ⟨rfl,aa⟩:=hcut;obtain rfl:=aa.symm;clear aa;go_wp2_with fail
 refine (g.out _).mono ?_;rintro e w4 ⟨rfl,aa⟩;obtain rfl:=aa.symm;clear aa g;go_wp2_with fail
 refine (an.out _).mono ?_;rintro e w4 ⟨rfl,hb⟩;have h4:=h3.out.move hb;clear h3 hb an;obtain ⟨w3,aj⟩:∃w3,w3=w4:=⟨_,rfl⟩;rw [<-aj] at h4 ⊢;clear aj;have h3:=Hd (h4);clear h4;have hn0:¬(n:Int)<0:=by omega
 have cl:¬(8:Int)<=(d:Int):=by omega
 replace hnn:=Hd hnn;obtain ⟨p12,hp12⟩:∃p:Bool,p=decide (k=12):=⟨_,rfl⟩;replace hp12:=Hd hp12;go_upto_region 30 with fail
 go_cut [147] from 147 to 147 (fun s5 wx=>s5=.bool p12/\wx=w3)
 case first=>
  rcases hk with rfl | rfl | rfl | rfl
  ·obtain rfl:p12=false:=hp12.out
   go_wp2_with fail
   go_meet
   exact ⟨rfl,rfl⟩
  ·obtain rfl:p12=true:=hp12.out
   go_wp2_with fail
   go_meet
   exact ⟨rfl,rfl⟩
  ·obtain rfl:p12=false:=hp12.out
   go_wp2_with fail
   go_meet
   exact ⟨rfl,rfl⟩
  ·obtain rfl:p12=false:=hp12.out
   go_wp2_with fail
   go_meet
   exact ⟨rfl,rfl⟩
 obtain ⟨rfl,aa⟩:=hcut;obtain rfl:=aa.symm;clear aa
 go_upto_if 147 with fail
 go_cut [20] from 20 to 149 (fun s5 wx=>s5=.int .i64 (nn:Int)/\wx=w3)
 case first=>
  cases p12 with
  | false=>
   have h1:¬k=12:=of_decide_eq_false hp12.out.symm;have ak:=hnn.out;rw [if_neg h1] at ak;subst ak;go_wp2_with fail
   go_meet
   exact ⟨rfl,rfl⟩
  | true=>
   have h1:k=12:=of_decide_eq_true hp12.out.symm;have ak:=hnn.out;rw [if_pos h1] at ak;have b3:IntKind.i64.wrap (2 * (n:Int))=(nn:Int):=by rw [IntWalk.i64_in _ (by omega)];omega
   replace ak:=Hd ak;go_wp2_with fail
   go_meet
   exact ⟨by first | rfl | (rw [b3]) | (simp [b3]),rfl⟩
 obtain ⟨rfl,aa⟩:=hcut;obtain rfl:=aa.symm;clear aa;replace hk:=Hd hk;obtain ⟨M,hM⟩:∃M,M=many+nn:=⟨_,rfl⟩;have aj:IntKind.i64.wrap ((many:Int)+(nn:Int))=(M:Int):=by rw [IntWalk.i64_in _ (by omega)];omega
 have cm:¬(1000:Int)<(M:Int):=by omega
 have cl:¬(8:Int)<=(d:Int):=by omega
 rw [<-hM] at ab;replace hM:=Hd hM;go_upto_region 32 with fail
 go_upto_region 33 with fail
 go_cut [170] from 154 to 170 (fun s5 wx=>s5=.bool false/\wx=w3)
 case first=>
  by_cases hk14:k=14
  ·have h15:¬(nn=0\/0<d):=fun e=>h14 ⟨hk14,e⟩
   subst hk14;have z1:((nn:Int) == 0)=false:=by rw [beq_eq_false_iff_ne];omega
   obtain rfl:d=0:=by omega
   go_wp2_with fail
   go_meet
   exact ⟨rfl,rfl⟩
  ·have c14:((k:Int) == 14)=false:=by rw [beq_eq_false_iff_ne];omega
   go_wp2_with fail
   go_meet
   exact ⟨rfl,rfl⟩
 obtain ⟨rfl,aa⟩:=hcut;obtain rfl:=aa.symm;clear aa;clear h14;have ao:=Hd (A4 w3 26);have ah:=Hd (B5 w3 26 [.int .i64 (k:Int),.string ⟨#[]⟩,.int .i64 0,.float .f64 0,.bool false,.slice none 0 0] rfl);have ag:True:=trivial;go_upto_region 36 with (have _t:=ag;refine wpList_store_mid rfl 26 _ _ rfl w3.heap.size 0 _ rfl rfl ao.out Ad (one6 _ _ _ _ _ _ _ _) ?_;clear ag _t)
 generalize (w3.alloc (.cells #[Value.int .i64 0,.string ⟨#[]⟩,.int .i64 0,.float .f64 0,.bool false,.slice none 0 0] 26)).setCells w3.heap.size 0 [Value.int .i64 (k:Int),.string ⟨#[]⟩,.int .i64 0,.float .f64 0,.bool false,.slice none 0 0]=w5 at ah ⊢;obtain ⟨al,cc,cd⟩:=ah.out;have a2:LS5 w w5 w3.heap.size (k:Int) (.slice none 0 0) [] []:=⟨h3.out.move al,World.ownsRow_nil _ _ _ _,RVs.nil _,cc,cd,h3.out.blk1.lt⟩;obtain ⟨D,hD⟩:∃D,D=w3.heap.size:=⟨_,rfl⟩;rw [<-hD] at a2 ⊢;clear ah ao al cc cd h3;replace hD:=Hd hD;replace a2:=Hd a2;clear aj cm;go_wp2_with fail
 go_loopw [2,13,22] (fun mv uv iv wr=>∃(j uj mj:Nat) (lj:List V) (lv:Value) (bw:List (List Value)),j<=nn/\mv=.int .i64 (mj:Int)/\uv=.int .i64 ((U+uj:Nat):Int)/\iv=.int .i64 (j:Int)/\lj.length=j/\mj<=1000/\U+uj<=s.size/\LS5 w wr D (k:Int) lv bw lj/\Links (fun _ _=>True) f res s.data.toList U (nn - j) uj mj lj) (fun _ _ iv _=>nn - (intOf iv).toNat)
 case atStart=>exact ⟨0,0,M,[],_,[],Nat.zero_le _,rfl,rfl,rfl,rfl,by have:=hM.out;omega,by omega,a2.out,ab.out⟩
 case round=>
  obtain ⟨j,uj,mj,lj,lv,bw,hj,rfl,rfl,rfl,be,cf,cz,g,ar⟩:=hrel;obtain ⟨P,hP⟩:∃P,P=U+uj:=⟨_,rfl⟩;rw [<-hP] at cz ⊢;by_cases hlt:j<nn
  ·obtain ⟨ae,ce,rfl⟩:=(Reads.of_owns g.own).shape
   obtain ⟨lft,hlf⟩:∃lft,nn - j=lft+1:=⟨nn - j - 1,by omega⟩;rw [hlf] at ar;have b4:(j:Int)<(nn:Int):=by omega
   have hPi:(P:Int)<=(s.size:Int):=by omega
   have hwd:IntKind.i64.wrap ((d:Int)+1)=(d:Int)+1:=IntWalk.i64_in _ (by omega);have hwj:IntKind.i64.wrap ((j:Int)+1)=((j+1:Nat):Int):=by rw [IntWalk.i64_in _ (by omega)];rfl
   obtain ⟨T9,hT9⟩:∃T9,s.extract P s.size=T9:=⟨_,rfl⟩;have a7:T9.data.toList=s.data.toList.drop P:=by rw [<-hT9];exact drop_list s P
   have b5:T9.size<=1000000:=by rw [<-hT9,ByteArray.size_extract];omega
   have ac:=hval.out wr T9 mj g.two.below b5 cf;rw [a7] at ac;cases hfo:f mj (s.data.toList.drop P) with
   | stop q=>
    rw [hfo] at ac;rw [hP] at hfo;have a8:=ar.stop hfo;have av:=hH.out;rw [a8] at av;dsimp only at av;subst av;clear hH ar a8 hfo a7;obtain ⟨z,hz⟩:∃z:Int,z=if q=51 then 2 else 1:=⟨_,rfl⟩;have z0:(z == 0)=false:=by rw [hz];split<;>rfl
    have z1:(z != 0)=true:=by simp [bne,z0]
    have o:Calls Tryz.prog 47 #[.string T9,.int .i64 ((d:Int)+1),.int .i64 (mj:Int)] wr (fun e w' => ∃x y:Int,e=.returned (.tuple #[.agg #[.int .i64 0,.string ⟨#[]⟩,.int .i64 0,.float .f64 0,.bool false,.slice none 0 0],.int .i64 x,.int .i64 y,.int .i64 z])/\Below wr.heap.size wr w'):=by rw [hz];exact ac
    clear ac;replace o:=Hd o;replace hz:=Hd hz;replace g:=Hd g;replace hP:=Hd hP;go_wp2_with fail
    refine o.out.mono ?_;rintro e w4 ⟨X,Y,rfl,a0⟩;clear o;have ao:=Hd (A4 w4 26);have ah:=Hd (B5 w4 26 [.int .i64 0,.string ⟨#[]⟩,.int .i64 0,.float .f64 0,.bool false,.slice none 0 0] rfl);have ag:True:=trivial;go_upto_region 40 with (have _t:=ag;refine wpList_store_mid rfl 26 _ _ rfl w4.heap.size 0 _ rfl rfl ao.out Ad (one6 _ _ _ _ _ _ _ _) ?_;clear ag _t)
    generalize (w4.alloc (.cells #[Value.int .i64 0,.string ⟨#[]⟩,.int .i64 0,.float .f64 0,.bool false,.slice none 0 0] 26)).setCells w4.heap.size 0 [Value.int .i64 0,.string ⟨#[]⟩,.int .i64 0,.float .f64 0,.bool false,.slice none 0 0]=W4 at ah ⊢;obtain ⟨al,af,_⟩:=ah.out;obtain ⟨G,hG⟩:∃G,G=w4.heap.size:=⟨_,rfl⟩;rw [<-hG] at af ⊢;have ap:=a0.trans (al.mono a0.size);replace hG:=Hd hG;clear ah ao;obtain ⟨w3,aj⟩:∃w3,w3=W4:=⟨_,rfl⟩;have h3:=g.out.two.move ap;rw [<-aj] at h3 ⊢;clear aj ap af a0 al g;have aw:(w3.setCells w.heap.size 0 [.int .i64 0,.string (⟨#[]⟩:ByteArray),.int .i64 0,.float .f64 0,.bool false,.slice none 0 0]).rangeAt w.heap.size 0 [.int .i64 0,.string (⟨#[]⟩:ByteArray),.int .i64 0,.float .f64 0,.bool false,.slice none 0 0]:=
     World.rangeAt_setCells_same _ _ _ _ (Af (n:=6) h3.zero h3.blk rfl)
    have bt:=Hd (Af (n:=6) h3.zero h3.blk rfl);have cn:=Hd (h3.full);have ay:Below w.heap.size w (w3.setCells w.heap.size 0 [.int .i64 0,.string (⟨#[]⟩:ByteArray),.int .i64 0,.float .f64 0,.bool false,.slice none 0 0]):=
     h3.below.trans ((Fr.setCells (S:=fun k=>k=w.heap.size) (fun _=>rfl) _ _ _ (Fr.refl _ w3)).below h3.below.size (fun i hi h=>by omega))
    replace aw:=Hd aw;replace ay:=Hd ay;replace h3:=Hd h3
    go_wp2_with (first
     | (refine wpList_load_mid rfl 26 _ rfl (w.heap.size+1) 0 rfl _ _ cn.out Tryz.underlying26 rfl Ad ?_)
     | (refine wpList_store_mid rfl 26 _ _ rfl w.heap.size 0 _ rfl rfl bt.out Ad (one6 _ _ _ _ _ _ _ _) ?_))
    refine bodyPost_ret (As (v:=.agg #[.int .i64 0,.string (⟨#[]⟩:ByteArray),.int .i64 0,.float .f64 0,.bool false,.slice none 0 0]) rfl rfl (run_loadVar_mid (P:=Tryz.prog) _ _ 0 26 _ _ aw.out Tryz.underlying26 rfl Ad)) rfl ?_;exact ⟨0,0,by rw [hz.out];rfl,ay.out⟩
   | got r=>
    obtain ⟨x,u1,m1⟩:=r;rw [hfo] at ac;rw [hP] at hfo;have a4:=ar.next hfo;obtain ⟨bs,bx⟩:=hfm.out _ _ _ _ _ hfo;rw [List.length_drop,Array.length_toList] at bs;have co:s.data.size=s.size:=rfl;rw [show lft=nn - (j+1) by omega] at a4;replace bx:=bx cf;have cp:U+(uj+u1)<=s.size:=by omega
    have hwu:IntKind.i64.wrap ((P:Int)+(u1:Int))=((U+(uj+u1):Nat):Int):=by rw [IntWalk.i64_in _ (by omega)];omega
    have o:Calls Tryz.prog 47 #[.string T9,.int .i64 ((d:Int)+1),.int .i64 (mj:Int)] wr (fun e w' => ∃(a:Option Addr) (ca:Nat),e=.returned (.tuple #[.agg #[.int .i64 x.kind,.string x.text,.int .i64 x.int,.float .f64 x.real,.bool x.flag,.slice a x.list.length ca],.int .i64 (u1:Int),.int .i64 (m1:Int),.int .i64 0]) /\
     RV (Bh wr.heap.size w') (Ao x.kind x.text x.int x.real x.flag a x.list.length ca) x/\Below wr.heap.size wr w'):=ac
    clear ac hfo ar a7 bs co;have b6:lj.length<1000000000:=by omega
    replace o:=Hd o;replace g:=Hd g;replace hP:=Hd hP;replace a4:=Hd a4;replace be:=Hd be;go_wp2_with fail
    refine o.out.mono ?_;rintro e w4 ⟨ax,cx,rfl,bd,a0⟩;clear o;have ao:=Hd (A4 w4 26);have ah:=Hd (B5 w4 26 [.int .i64 x.kind,.string x.text,.int .i64 x.int,.float .f64 x.real,.bool x.flag,.slice ax x.list.length cx] rfl);have ag:True:=trivial;go_upto_region 40 with (have _t:=ag;refine wpList_store_mid rfl 26 _ _ rfl w4.heap.size 0 _ rfl rfl ao.out Ad (one6 _ _ _ _ _ _ _ _) ?_;clear ag _t)
    generalize (w4.alloc (.cells #[Value.int .i64 0,.string ⟨#[]⟩,.int .i64 0,.float .f64 0,.bool false,.slice none 0 0] 26)).setCells w4.heap.size 0 [Value.int .i64 x.kind,.string x.text,.int .i64 x.int,.float .f64 x.real,.bool x.flag,.slice ax x.list.length cx]=W4 at ah ⊢;obtain ⟨al,af,_⟩:=ah.out;obtain ⟨G,hG⟩:∃G,G=w4.heap.size:=⟨_,rfl⟩;rw [<-hG] at af ⊢;have ap:=a0.trans (al.mono a0.size);replace hG:=Hd hG;clear ah ao;have b:=g.out.below ap;have b7:=Hd (bd.mono (Gk al));have cq:D+1<=wr.heap.size:=g.out.blk.lt;have bh:∀q,(Value.slice ae lj.length ce).ownBlock=some q->q<wr.heap.size:=fun q hq=>(Au g.out.own q hq).2;have cr:D<W4.heap.size:=b.blk.lt;have aq:=b.own;have bk:=Hd (b.vals);have bl:=Hd (b.blk);have bi:W4.cell? ⟨D,5,none⟩=some (.slice ae lj.length ce):=by have:=b.full 5 _ rfl;simpa using this
    have bu:¬(Value.slice ae lj.length ce).ownBlock=some D:=fun e=>by have:=(Au aq D e).1;omega
    clear bd a0 al ap;replace b:=Hd b;replace aq:=Hd aq;replace bi:=Hd bi;replace af:=Hd af;replace bh:=Hd bh;clear g;have b8:=Hd (b7.out.mono (nf_of_newer (B:=D+1) (own:=(Value.slice ae lj.length ce).ownBlock) cq bh.out));have az:=aq.out;have bm:=Hd (Au az);have cs:D+1<=W4.heap.size:=cr;have bn:=bi.out;have bo:True:=trivial;have bp:True:=trivial
    go_wp2_with (first
     | (have _t:=bo;refine wpList_load_mid rfl 26 _ rfl G 0 rfl _ _ af.out Tryz.underlying26 rfl Ad ?_;clear bo _t)
     | (at_builtin;have _t:=bp;refine append_elem_at rfl rfl eVal rfl az rfl rfl rfl b6 cs ?_;clear bp _t))
    intro v9 w9 am a1 cg;have bq:=a1.cell (p:=⟨D,5,none⟩) bn bu;have ba:=(bl.out.fr a1 bu);have ct:=ba.frz 5 none;obtain ⟨a9,c9,rfl⟩:=(Reads.of_owns am).shape;obtain ⟨W9,hW9⟩:∃W9,W9=w9.setCell ⟨D,5,none⟩ (.slice a9 (lj.length+1) c9):=⟨_,rfl⟩;have bj:Fr (fun k=>k=D) w9 W9:=by rw [hW9];exact Fr.setCell (S:=fun k=>k=D) (Fr.refl _ _) (fun _=>rfl) _
    have bb:LS5 w W9 D (k:Int) (.slice a9 (lj.length+1) c9) (bw++[Ao x.kind x.text x.int x.real x.flag ax x.list.length cx]) (lj++[x]):=by
     have cu:∀i,i<D->¬(Value.slice ae lj.length ce).ownBlock=some i:=fun i hi e=>by have:=(bm.out i e).1;omega
     have cv:Below D w9 W9:=bj.below (by have:=a1.size;omega) (fun i hi e=>by omega);have b9:Below D W4 w9:=a1.below (by omega) cu;have ai:=b9.trans (cv.mono (Nat.le_refl _));have cw:=b.out.base
     have cb:Two w W9 0 ⟨#[]⟩ 0 0 false:=⟨fun q y hq=>by rw [ai.cell (show w.heap.size<D by omega)];exact b.out.two.zero q y hq,fun q y hq=>by rw [ai.cell (show w.heap.size+1<D by omega)];exact b.out.two.full q y hq,
      b.out.two.blk.of_block (ai.block _ (by omega)),b.out.two.blk1.of_block (ai.block _ (by omega)),b.out.two.below.trans (ai.mono (by omega))⟩
     refine ⟨cb,?_,?_,?_,?_,cw⟩
     ·rw [List.length_append,List.flatten_append]
      simpa [Ao] using owns_fr am bj (fun q hq e=>by have:=(Au am q hq).1;omega)
     ·exact ((bk.out.snoc b8.out).mono (nf_append a1 cg)).mono (fun ad u h=>let ⟨h1,h2,h3⟩:=nf_cell h;nf_mk (w:=W9) (bj.cell h1 (fun e=>by omega)) h2 h3)
     ·have bc:∀q u,q≠5->W4.cell? ⟨D,q,none⟩=some u->W9.cell? ⟨D,q,none⟩=some u:=fun q u hq hu=>by
       rw [hW9,Ac (fun e=>hq (congrArg Addr.off e).symm)];exact a1.cell hu bu
      exact range6 (bc _ _ (by omega) (by simpa using b.out.full 0 _ rfl)) (bc _ _ (by omega) (by simpa using b.out.full 1 _ rfl)) (bc _ _ (by omega) (by simpa using b.out.full 2 _ rfl)) (bc _ _ (by omega) (by simpa using b.out.full 3 _ rfl)) (bc _ _ (by omega) (by simpa using b.out.full 4 _ rfl)) (by rw [hW9];exact Ak bq)
     ·rw [hW9];exact ba.setCell _ _
    have bv:(lj++[x]).length=j+1:=by rw [List.length_append,be.out];rfl
    replace bb:=Hd bb;replace bv:=Hd bv;clear a1 cg am bj aq az bk b8 b7 bl bh bm af b bi bn ba;go_upto_region 43 with fail
    rw [<-hW9];replace hW9:=Hd hW9;clear bq ct;go_wp2_with fail
    go_roundw
    case rel=>exact ⟨j+1,uj+u1,m1,lj++[x],_,_,by omega,rfl,by first | rfl | go_num,by first | rfl | go_num,bv.out,bx,cp,bb.out,a4.out⟩
    case measure=>simp [intOf];omega
  ·have b4:¬(j:Int)<(nn:Int):=by omega
   have cy:nn - j=0:=by omega
   rw [cy] at ar;have a8:=ar.last;obtain ⟨a3,c3,rfl⟩:=(Reads.of_owns g.own).shape;have av:=hH.out;rw [a8] at av;dsimp only at av;subst av;have bd:=RV.of_row (v:=.mk (k:Int) ⟨#[]⟩ 0 0 false lj) rfl g.own (g.vals.mono nf_newer);have a5:=bd.mono (Gl (x:=w.heap.size) (w' := wr.setCells w.heap.size 0 [.int .i64 (k:Int),.string ⟨#[]⟩,.int .i64 0,.float .f64 0,.bool false,.slice a3 lj.length c3]) (Fr.setCells (S:=fun k=>k=w.heap.size) (fun _=>rfl) _ _ _ (Fr.refl _ wr)) (by have:=g.base;omega));obtain ⟨w3,aj⟩:∃w3,w3=wr:=⟨_,rfl⟩;have h3:=g.two;have af:=g.full;rw [<-aj] at h3 af a5 ⊢;replace af:=Hd af;replace a5:=Hd a5;clear aj g ar a8 bd hH;replace be:=Hd be;replace hP:=Hd hP
   have aw:(w3.setCells w.heap.size 0 [.int .i64 (k:Int),.string ⟨#[]⟩,.int .i64 0,.float .f64 0,.bool false,.slice a3 lj.length c3]).rangeAt w.heap.size 0 [.int .i64 (k:Int),.string ⟨#[]⟩,.int .i64 0,.float .f64 0,.bool false,.slice a3 lj.length c3]:=
    World.rangeAt_setCells_same _ _ _ _ (Af (n:=6) h3.zero h3.blk rfl)
   have bt:=Hd (Af (n:=6) h3.zero h3.blk rfl);have ay:Below w.heap.size w (w3.setCells w.heap.size 0 [.int .i64 (k:Int),.string ⟨#[]⟩,.int .i64 0,.float .f64 0,.bool false,.slice a3 lj.length c3]):=
    h3.below.trans ((Fr.setCells (S:=fun k=>k=w.heap.size) (fun _=>rfl) _ _ _ (Fr.refl _ w3)).below h3.below.size (fun i hi h=>by omega))
   replace aw:=Hd aw;replace ay:=Hd ay;replace h3:=Hd h3
   go_wp2_with (first
    | (refine wpList_load_mid rfl 26 _ rfl D 0 rfl _ _ af.out Tryz.underlying26 rfl Ad ?_)
    | (refine wpList_store_mid rfl 26 _ _ rfl w.heap.size 0 _ rfl rfl bt.out Ad (one6 _ _ _ _ _ _ _ _) ?_))
   refine bodyPost_ret (As (v:=.agg #[.int .i64 (k:Int),.string ⟨#[]⟩,.int .i64 0,.float .f64 0,.bool false,.slice a3 lj.length c3]) rfl rfl (run_loadVar_mid (P:=Tryz.prog) _ _ 0 26 _ _ aw.out Tryz.underlying26 rfl Ad)) rfl ?_;exact ⟨a3,c3,by rw [<-hP.out];rfl,a5.out,ay.out⟩
