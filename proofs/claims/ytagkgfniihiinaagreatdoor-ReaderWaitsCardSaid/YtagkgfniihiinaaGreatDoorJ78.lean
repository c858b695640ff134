/- strings.byteReplacer: Replace. -/
import Derived.Test.YtagkgfniihiinaaGreatDoorJ55
import Derived.Test.YtagkgfniihiinaaGreatDoorProg
import Derived.Laws.LoneSync
import Derived.Test.YtagkgfniihiinaaGreatDoorJ72
import Derived.Defers
import Derived.Tactics2
import Derived.Lib.OthersKept
import Derived.Deep.WholeRow
import Derived.Deep.LoopGhost
import Derived.Lib.ConvBytes
import Derived.Lib.SlBytesRow
import Derived.Test.YtagkgfniihiinaaGreatDoorJ64
import Derived.Test.YtagkgfniihiinaaGreatDoorJ85
import Derived.Test.YtagkgfniihiinaaGreatDoorJ82
namespace Go.Proofs.YtagkgfniihiinaaGreatDoor
open Go.RowKit
def Eb (b:UInt8):UInt8:=if b=13\/b=10 then 32 else b
def F3 (s:ByteArray):ByteArray:=⟨s.data.map Eb⟩
theorem blankB_size (s:ByteArray):(F3 s).size=s.size:=by show (s.data.map Eb).size=s.data.size;simp
end Go.Proofs.YtagkgfniihiinaaGreatDoor
namespace Go.Proofs.YtagkgfniihiinaaGreatDoor
open Go.RowKit Go.Joins
mutual
def V.down:V->V
 | .mk k t i r f l=>
   if k=7 then .mk 4 ⟨(A5 r).toArray⟩ 0 0 false []
   else if k=8 then .mk 3 ⟨#[]⟩ (if f then 1 else 0) 0 false []
   else if k=9 then .mk 4 t 0 0 false []
   else if k=11 then .mk 4 (t.extract 4 t.size) 0 0 false []
   else if k=10 then .mk 2 (F3 t) 0 0 false []
   else if k=5\/k=12\/k=13\/k=14 then .mk 5 ⟨#[]⟩ 0 0 false (V.downL l)
   else .mk k t i r f l
def V.downL:List V->List V
 | []=>[]
 | x :: l=>x.down :: V.downL l
end
theorem V.downL_map (l:List V):V.downL l=l.map V.down:=by
 induction l with
 | nil=>rfl
 | cons x l ih=>rw [V.downL,ih];rfl
theorem V.down_eq (v:V):v.down=if v.kind=7 then .mk 4 ⟨(A5 v.real).toArray⟩ 0 0 false []
   else if v.kind=8 then .mk 3 ⟨#[]⟩ (if v.flag then 1 else 0) 0 false []
   else if v.kind=9 then .mk 4 v.text 0 0 false []
   else if v.kind=11 then .mk 4 (v.text.extract 4 v.text.size) 0 0 false []
   else if v.kind=10 then .mk 2 (F3 v.text) 0 0 false []
   else if v.kind=5\/v.kind=12\/v.kind=13\/v.kind=14 then .mk 5 ⟨#[]⟩ 0 0 false (v.list.map V.down)
   else v:=by cases v;rw [V.down,V.downL_map];rfl
mutual
def V.old:V->List UInt8
 | .mk k t i r f l=>if k=6 then [36,45,49,13,10] else if k=5 then numL 42 l.length++V.oldL l else (V.mk k t i r f l).wire
def V.oldL:List V->List UInt8
 | []=>[]
 | x :: l=>x.old++V.oldL l
end
theorem V.old_eq (v:V):v.old=if v.kind=6 then [36,45,49,13,10] else if v.kind=5 then numL 42 v.list.length++V.oldL v.list else v.wire:=by cases v;rw [V.old];rfl
theorem V.countL_map_down {l:List V} (h:∀x∈l,x.down.count=x.count):V.countL (l.map V.down)=V.countL l:=by
 induction l with
 | nil=>rfl
 | cons x l ih=>rw [List.map_cons,V.countL,V.countL,h x (by simp),ih fun y hy=>h y (by simp [hy])]
theorem blank_free (t:ByteArray):D8 (F3 t)=false:=by
 refine crlf_none fun j b hj hb=>?_;have h1:b∈(F3 t).data.toList:=List.mem_of_getElem? hb;unfold F3 at h1;rw [Array.toList_map,List.mem_map] at h1;obtain ⟨c,_,rfl⟩:=h1;unfold Eb;split
 · decide
 · rename_i h
   rw [Bool.eq_false_iff];intro e;simp at e;exact h e
structure DownOk (v:V) (d:Int):Prop where
 kind:1<=v.down.kind/\v.down.kind<=6
 count:v.down.count=v.count
 fine:v.down.fine d=true
 ranged:v.down.ranged
theorem Fm {v:V} {d:Int} (h:okV v=true) (hk:Au v.kind=false) (hl:v.list=[]):v.fine d=true:=by rw [V.fine_eq,h,hk,hl];rfl
theorem fineL_map {l:List V} {d:Int} (h:∀x∈l,DownOk x d):V.fineL (l.map V.down) d=true:=by
 induction l with
 | nil=>rfl
 | cons x l ih=>
   have hx:=h x (by simp);rw [List.map_cons,V.fineL,hx.fine,ih fun y hy=>h y (by simp [hy])];have:x.down.kind≠14:=by have:=hx.kind;omega
   simp [this]
theorem bits0:Bb 0=0:=by decide +kernel
theorem rg0 (k:Int) (t:ByteArray) (f:Bool):(V.mk k t 0 0 f []).ranged:=⟨by decide,by decide,by decide,trivial⟩
theorem text_ok (t:ByteArray) (h:t.size<=4096):okV (.mk 4 t 0 0 false [])=true:=by
 unfold okV;simp [V.kind,V.text,V.list,B5,Bg,Bh,Bm,V.int,V.real,V.flag,Bs,h,bits0]
theorem text_ok2 (t:ByteArray) (h:t.size<=4096) (hb:D8 t=false):okV (.mk 2 t 0 0 false [])=true:=by
 unfold okV;simp [V.kind,V.text,V.list,B5,Bg,Bh,Bm,V.int,V.real,V.flag,Bs,h,hb,bits0]
theorem down_ok (v:V):∀d:Int,v.fine d=true->v.ranged->DownOk v d:=by
 induction v using V.ind with
 | h v ih=>
 intro d hf hr;have hfe:=hf;rw [V.fine_eq,Bool.and_eq_true,Bool.and_eq_true] at hfe;obtain ⟨⟨h1,h2⟩,h3⟩:=hfe;have ho:=Du h1;have hk:=ho.kind;have hr0:=(V.ranged_eq v).1 hr;have e0:∀t i,(-9223372036854775808:Int)<=i->i<=9223372036854775807->(V.mk 4 t i 0 false []).ranged:=fun t i a b=>⟨a,b,by decide,trivial⟩;have hc:¬(v.kind=5\/v.kind=12\/v.kind=13\/v.kind=14)->v.count=1:=fun h=>by rw [V.count_eq,ho.list h];rfl
 have hd:=V.down_eq v;have q2:(1:Int)<=2/\(2:Int)<=6:=by decide
 have q3:(1:Int)<=3/\(3:Int)<=6:=by decide
 have q4:(1:Int)<=4/\(4:Int)<=6:=by decide
 have q5:(1:Int)<=5/\(5:Int)<=6:=by decide
 by_cases k7:v.kind=7
 · rw [if_pos k7] at hd
   have hz:(⟨(A5 v.real).toArray⟩:ByteArray).size<=4096:=by have:=text_len hr0.2.2.1;show (A5 v.real).toArray.size<=4096;simp;omega
   exact ⟨by rw [hd];exact q4,by rw [hd,hc (by omega)];rfl,by rw [hd];exact Fm (text_ok _ hz) rfl rfl,by rw [hd];exact rg0 _ _ _⟩
 rw [if_neg k7] at hd;by_cases k8:v.kind=8
 · rw [if_pos k8] at hd
   refine ⟨by rw [hd];exact q3,by rw [hd,hc (by omega)];rfl,?_,?_⟩
   · rw [hd]
     refine Fm ?_ rfl rfl;unfold okV;simp [V.kind,V.text,V.list,B5,Bg,Bh,Bm,numK,V.int,V.real,V.flag,Bs,bits0,ByteArray.size,D4,ByteArray.toList_eq]
   · rw [hd]
     cases v.flag
     · exact rg0 _ _ _
     · exact ⟨by decide,by decide,by decide,trivial⟩
 rw [if_neg k8] at hd;by_cases k9:v.kind=9
 · rw [if_pos k9] at hd
   exact ⟨by rw [hd];exact q4,by rw [hd,hc (by omega)];rfl,by rw [hd];exact Fm (text_ok _ ho.size) rfl rfl,by rw [hd];exact rg0 _ _ _⟩
 rw [if_neg k9] at hd;by_cases k11:v.kind=11
 · rw [if_pos k11] at hd
   have hz:(v.text.extract 4 v.text.size).size<=4096:=by have:=ho.size;rw [ByteArray.size_extract];omega
   exact ⟨by rw [hd];exact q4,by rw [hd,hc (by omega)];rfl,by rw [hd];exact Fm (text_ok _ hz) rfl rfl,by rw [hd];exact rg0 _ _ _⟩
 rw [if_neg k11] at hd;by_cases k10:v.kind=10
 · rw [if_pos k10] at hd
   refine ⟨by rw [hd];exact q2,by rw [hd,hc (by omega)];rfl,?_,by rw [hd];exact rg0 _ _ _⟩;rw [hd];refine Fm ?_ rfl rfl;have hb:=blank_free v.text;exact text_ok2 _ (by rw [blankB_size];exact ho.size) hb
 rw [if_neg k10] at hd;by_cases kl:v.kind=5\/v.kind=12\/v.kind=13\/v.kind=14
 · rw [if_pos kl] at hd
   have hk5:Au v.kind=true:=decide_eq_true kl;rw [hk5] at h2;have hall:∀x∈v.list,DownOk x (d - 1):=fun x hx=>ih x hx (d - 1) (D1 h3 x hx) (V.rangedL_mem hr0.2.2.2 x hx);refine ⟨by rw [hd];exact q5,?_,?_,?_⟩
   · rw [hd,V.count_eq,V.count_eq v]
     show V.countL (v.list.map V.down)+1=_;rw [V.countL_map_down fun x hx=>(hall x hx).count]
   · rw [hd,V.fine_eq]
     show (okV _ && (!Au 5 || decide (1<=d)) && V.fineL (v.list.map V.down) (d - 1))=true;rw [fineL_map hall,Bool.and_true,Bool.and_eq_true];refine ⟨?_,by simpa [Au] using h2⟩;unfold okV;simp [V.kind,V.text,V.list,B5,Bg,Bh,Bm,Au,V.int,V.real,V.flag,Bs,bits0,ByteArray.size,D4,ByteArray.toList_eq]
   · rw [hd,V.ranged_eq]
     refine ⟨by show (-9223372036854775808:Int)<=0;decide,by show (0:Int)<=9223372036854775807;decide,by show (0:Nat)<18446744073709551616;decide,rangedL_of fun x hx=>?_⟩;obtain ⟨y,hy,rfl⟩:=List.mem_map.1 hx;exact (hall y hy).ranged
 rw [if_neg kl] at hd;exact ⟨by rw [hd];omega,by rw [hd],by rw [hd];exact hf,by rw [hd];exact hr⟩
theorem old_len (v:V):∀d:Int,v.fine d=true->v.ranged->v.count<=100000->3<=v.old.length/\v.old.length<=5000 * v.count:=by
 induction v using V.ind with
 | h v ih=>
 intro d hf hr hc;rw [V.old_eq];by_cases k6:v.kind=6
 · rw [if_pos k6]
   have:=v.count_pos;exact ⟨by decide,by show 5<=_;omega⟩
 rw [if_neg k6];by_cases k5:v.kind=5
 · rw [if_pos k5]
   rw [V.fine_eq,Bool.and_eq_true] at hf;have hr0:=(V.ranged_eq v).1 hr;rw [V.count_eq] at hc ⊢;have key:∀l:List V,(∀x∈l,x∈v.list)->V.countL l<=V.countL v.list->(V.oldL l).length<=5000 * V.countL l:=by
     intro l;induction l with
     | nil=>intro _ _;exact Nat.zero_le _
     | cons x l ih2=>
       intro hm hcl;rw [V.countL] at hcl;have h1:=(ih x (hm x (by simp)) (d - 1) (D1 hf.2 x (hm x (by simp))) (V.rangedL_mem hr0.2.2.2 x (hm x (by simp))) (by omega)).2;have h2:=ih2 (fun y hy=>hm y (by simp [hy])) (by omega);rw [V.oldL,List.length_append,V.countL];omega
   have h1:=key v.list (fun _ h=>h) (Nat.le_refl _);have hll:=V.length_le v.list;have h2:(numL 42 v.list.length).length<=24:=by
     have:=numB_size 42 v.list.length (by omega) (by omega);rw [<-numB_eq] at this;simpa [ByteArray.size] using this
   have h3:3<=(numL 42 v.list.length).length:=by unfold numL B0;simp
   rw [List.length_append];exact ⟨by omega,by omega⟩
 · rw [if_neg k5];exact wire_len v d hf hr hc
structure DownH (v:V) (k:Int) (t:ByteArray) (i:Int) (r:Nat) (f:Bool) (a:Option Addr) (n cap:Nat) (d:Int) (w:World):Prop where
 val:RV w.cell? (Ai k t i r f a n cap) v
 fine:v.fine d=true
 ranged:v.ranged
 count:v.count<=100000
 laid:LaidV w.heap.size w
theorem fine11 {v:V} {d:Int} (h:v.fine d=true) (hk:v.kind=11):4<=v.text.size:=by
 rw [V.fine_eq,Bool.and_eq_true,Bool.and_eq_true] at h;have h2:=h.1.1;unfold okV at h2;rw [Bool.and_eq_true,Bool.and_eq_true] at h2;have h3:=h2.1.2;unfold Bs at h3;rw [if_neg (by omega),if_neg (by omega),if_pos hk] at h3;unfold Dx at h3;split at h3
 · omega
 · cases h3
theorem reads_blockD {w:World} {b size:Nat} {us:Array Value} {t:TypeId} (h:w.heap[b]?=some (.cells us t (0,0))) (hs:us.size=size):Reads w size (.slice (some ⟨b,0,none⟩) 1 1) 1 us.toList:=
 ⟨_,_,rfl,by simp [hs],fun j u hj=>⟨b,0,rfl,by simp [World.cell?,h];simpa using hj⟩⟩
def DApp (D:Nat) (W4:World) (old:Value) (j:Nat) (css:List (List Value)) (pre:List V) (y:V) (v:Value) (w:World):Prop:=
 ∃(a1:Option Addr) (c1:Nat),Fr (fun k=>old.ownBlock=some k) W4 w/\w.ownsRow (D+1) 26 6 v (j+1) (css.flatten++Ai y.kind y.text y.int y.real y.flag a1 y.list.length c1) /\
   RVs (nf (D+1) v.ownBlock w) (css++[Ai y.kind y.text y.int y.real y.flag a1 y.list.length c1]) (pre++[y])
def dlR (i:Nat) (w w' : World):Prop:=match i with
 | 3=>Below w.heap.size w w'
 | 4=>Below w.heap.size w w'
 | 5=>True
 | 7=>True
 | _=>w' = w
namespace R2
end R2
structure RDownH (v:V) (k:Int) (t:ByteArray) (i:Int) (r:Nat) (f:Bool) (a:Option Addr) (n cap:Nat) (d:Int) (w:World):Prop where
 d:DownH v k t i r f a n cap d w
 par:Par w
 rng:Rng w
def Gn (v:V) (w:World) (e:Ending) (w' : World):Prop:=∃a' cap', e=.returned (.agg #[.int .i64 v.down.kind,.string v.down.text,.int .i64 v.down.int,.float .f64 v.down.real,.bool v.down.flag,.slice a' v.down.list.length cap'])/\RV (A8 w.heap.size w') (Ai v.down.kind v.down.text v.down.int v.down.real v.down.flag a' v.down.list.length cap') v.down/\Below w.heap.size w w'
theorem store_leaf {w W3 W:World} {D:Nat} {c:List Value} (hc:c.length=6) (hB:Below W3.heap.size W3 W) (hrD:W3.rangeAt D 0 c) (hkD:Blk W3 D) (hs3:W3.heap.size=D+1) (hDw:D=w.heap.size+2)
   (hrC:W3.rangeAt (w.heap.size+1) 0 [.int .i64 0,.string ⟨#[]⟩,.int .i64 0,.float .f64 0,.bool false,.slice none 0 0]) (hfC:Blk W3 (w.heap.size+1)) (hb03:Below w.heap.size w W3) (x:List Value) (hx:x.length=6) :
   W.there D 0 6/\(W.setCells D 0 x).rangeAt D 0 x/\Blk (W.setCells D 0 x) D/\(W.setCells D 0 x).rangeAt (w.heap.size+1) 0 [.int .i64 0,.string ⟨#[]⟩,.int .i64 0,.float .f64 0,.bool false,.slice none 0 0]/\Blk (W.setCells D 0 x) (w.heap.size+1)/\Below w.heap.size w (W.setCells D 0 x):=by
 have hkW:=hkD.of_block (hB.block D (by omega))
 have htD:=Aq (n:=6) (Af hB hrD) hkW hc.symm
 have hsW:=hB.size
 refine ⟨htD,World.rangeAt_setCells_same _ _ _ _ (by rw [hx];exact htD),Blk.setCells _ _ _ hkW,World.rangeAt_setCells_apart (Af hB hrC) _ _ _ (.inl (by omega)),Blk.setCells _ _ _ (hfC.of_block (hB.block (w.heap.size+1) (by omega))),?_⟩
 refine (hb03.trans (hB.mono (by omega))).trans ?_
 exact (Fr.setCells (S:=fun k=>k=D) (fun _=>rfl) _ _ _ (Fr.refl _ W)).below (by omega) (fun j hj e=>by omega)
set_option maxRecDepth 100000 in
set_option maxHeartbeats 6400000 in
theorem Ev {K:Int} (hK:K=7\/K=8\/K=9\/K=10\/K=11) {v:V} {t:ByteArray} {i:Int} {r:Nat} {f:Bool} {a:Option Addr} {n cap:Nat} {d:Int} {w:World} (hp:RDownH v K t i r f a n cap d w) :
   Calls Tryz.prog 32 #[.agg #[.int .i64 K,.string t,.int .i64 i,.float .f64 r,.bool f,.slice a n cap]] w (Gn v w):=by
 replace hK:=Hd hK
 have hpar:=Hd hp.par
 have hrng:=Hd hp.rng
 replace hp:=hp.d
 obtain ⟨ek,et,ei,er,ef,en⟩:=hp.val.len
 have hra:=(V.ranged_eq v).1 hp.ranged
 have hLv:=hp.laid
 obtain ⟨W2,hW2⟩:∃W2,W2=(w.alloc (.cells #[.int .i64 K,.string t,.int .i64 i,.float .f64 r,.bool f,.slice a n cap] 26)).alloc (.cells #[.int .i64 0,.string ⟨#[]⟩,.int .i64 0,.float .f64 0,.bool false,.slice none 0 0] 26):=⟨_,rfl⟩
 have hb2:Below w.heap.size w W2:=by rw [hW2];exact ((Below.refl _ _).alloc (Nat.le_refl _) _).alloc (by simp) _
 have hs2:W2.heap.size=w.heap.size+2:=by rw [hW2];simp
 have hB:∀q u,#[.int .i64 K,.string t,.int .i64 i,.float .f64 r,.bool f,.slice a n cap][q]?=some u->W2.cell? ⟨w.heap.size,q,none⟩=some u:=fun q u h=>by rw [hW2,World.cell?_alloc_past _ _ _ (by simp),World.cell?_alloc_new];exact h
 have hrC:W2.rangeAt (w.heap.size+1) 0 [.int .i64 0,.string ⟨#[]⟩,.int .i64 0,.float .f64 0,.bool false,.slice none 0 0]:=fun q u h=>by
   rw [Nat.zero_add,hW2,show w.heap.size+1=(w.alloc (.cells #[.int .i64 K,.string t,.int .i64 i,.float .f64 r,.bool f,.slice a n cap] 26)).heap.size by simp,World.cell?_alloc_new];simpa using h
 have hfC:Blk W2 (w.heap.size+1):=by rw [hW2,show w.heap.size+1=(w.alloc (.cells #[.int .i64 K,.string t,.int .i64 i,.float .f64 r,.bool f,.slice a n cap] 26)).heap.size by simp];exact Blk.new _ _ _
 have hcl:=hfC.lt
 have e0:=hB 0 _ rfl
 have e1:=hB 1 _ rfl
 have e2:=hB 2 _ rfl
 have e3:=hB 3 _ rfl
 have e4:=hB 4 _ rfl
 have e5:=hB 5 _ rfl
 clear hB
 obtain ⟨W3,hW3⟩:∃W3,W3=W2.alloc (.cells #[.int .i64 K,.string t,.int .i64 i,.float .f64 r,.bool f,.slice a n cap] 26):=⟨_,rfl⟩
 obtain ⟨D,hD⟩:∃D,W2.heap.size=D:=⟨_,rfl⟩
 have hb3:Below D W2 W3:=by rw [hW3,<-hD];exact (Below.refl _ _).alloc (Nat.le_refl _) _
 have hrD:W3.rangeAt D 0 [.int .i64 K,.string t,.int .i64 i,.float .f64 r,.bool f,.slice a n cap]:=by
   rw [hW3,<-hD];intro q u hq;rw [Nat.zero_add,World.cell?_alloc_new];simpa using hq
 have hkD:Blk W3 D:=by rw [hW3,<-hD];exact Blk.new _ _ _
 have hs3:W3.heap.size=D+1:=by rw [hW3,<-hD];simp
 have hDw:D=w.heap.size+2:=by rw [<-hD];exact hs2
 have f0:W3.cell? ⟨w.heap.size,0,none⟩=some (.int .i64 K):=(hb3.cell (show w.heap.size<D by omega)).trans e0
 have f1:W3.cell? ⟨w.heap.size,1,none⟩=some (.string t):=(hb3.cell (show w.heap.size<D by omega)).trans e1
 have f3:W3.cell? ⟨w.heap.size,3,none⟩=some (.float .f64 r):=(hb3.cell (show w.heap.size<D by omega)).trans e3
 have f4:W3.cell? ⟨w.heap.size,4,none⟩=some (.bool f):=(hb3.cell (show w.heap.size<D by omega)).trans e4
 have f5:W3.cell? ⟨w.heap.size,5,none⟩=some (.slice a n cap):=(hb3.cell (show w.heap.size<D by omega)).trans e5
 have hrC3:W3.rangeAt (w.heap.size+1) 0 [.int .i64 0,.string ⟨#[]⟩,.int .i64 0,.float .f64 0,.bool false,.slice none 0 0]:=Af (hD ▸ hb3) hrC
 have hfC3:Blk W3 (w.heap.size+1):=hfC.of_block (hb3.block _ (by omega))
 have hb03:Below w.heap.size w W3:=hb2.trans (hb3.mono (by omega))
 replace hW2:=Hd hW2
 replace hW3:=Hd hW3
 replace hb2:=Hd hb2
 replace hb3:=Hd hb3
 replace hb03:=Hd hb03
 replace hs2:=Hd hs2
 replace hs3:=Hd hs3
 replace hrC:=Hd hrC
 replace hfC:=Hd hfC
 replace hrC3:=Hd hrC3
 replace hfC3:=Hd hfC3
 replace hrD:=Hd hrD
 replace hkD:=Hd hkD
 replace ek:=Hd ek
 replace et:=Hd et
 replace ei:=Hd ei
 replace er:=Hd er
 replace ef:=Hd ef
 replace en:=Hd en
 replace hra:=Hd hra
 replace hLv:=Hd hLv
 replace hp:=Hd hp
 replace hD:=Hd hD
 replace hDw:=Hd hDw
 have hrA:W2.rangeAt w.heap.size 0 [.int .i64 K,.string t,.int .i64 i,.float .f64 r,.bool f,.slice a n cap]:=range6 e0 e1 e2 e3 e4 e5
 replace hrA:=Hd hrA
 go_enter Tryz.func32,Tryz.ntmps32
 go_upto_region 1 with fail
 rw [<-hW2.out]
 go_upto_region 2 with (refine wpList_load_mid rfl 26 _ rfl w.heap.size 0 rfl _ _ hrA.out Tryz.underlying26 rfl Ae ?_)
 rw [<-hW3.out,hD.out]
 clear e0 e1 e2 e3 e4 e5
 have hst:=fun (W:World) (hB:Below W3.heap.size W3 W) (x:List Value) (hx:x.length=6)=>store_leaf (x:=x) rfl hB hrD.out hkD.out hs3.out hDw.out hrC3.out hfC3.out hb03.out hx
 replace hst:=Hd hst
 go_upto_block 0 with fail
 go_cut [11] (fun _ wx=>∃(k' : Int) (T:ByteArray) (I:Int),v.down=.mk k' T I 0 false []/\wx.rangeAt D 0 [.int .i64 k', .string T,.int .i64 I,.float .f64 0,.bool false,.slice none 0 0]/\wx.rangeAt (w.heap.size+1) 0 [.int .i64 0,.string ⟨#[]⟩,.int .i64 0,.float .f64 0,.bool false,.slice none 0 0]/\Blk wx (w.heap.size+1)/\Below w.heap.size w wx)
 case first=>
   have hok:=Du (v:=v) (by have:=hp.out.fine;rw [V.fine_eq,Bool.and_eq_true,Bool.and_eq_true] at this;exact this.1.1);replace hok:=Hd hok;obtain rfl | rfl | rfl | rfl | rfl:=hK.out
   · have hdn:v.down=.mk 4 ⟨(A5 r).toArray⟩ 0 0 false []:=by rw [V.down_eq,<-ek.out,er.out];rfl
     have hF:Flo W3:=(hLv.out.below hb03.out (Nat.le_refl _)).isFlo;have hr9:r<18446744073709551616:=by rw [er.out];exact hra.out.2.2.1
     replace hdn:=Hd hdn;go_wp2_with fail
     refine (refText_any hr9 (hpar.out.below hb03.out) hF (hrng.out.below hb03.out)).mono ?_;rintro e w3 ⟨rfl,hb3x⟩;clear hF hr9;obtain ⟨h1,h2,_,h3,h4,h5⟩:=hst.out w3 hb3x [.int .i64 4,.string (⟨(A5 r).toArray⟩:ByteArray),.int .i64 0,.float .f64 0,.bool false,.slice none 0 0] rfl;obtain ⟨W6,hW6⟩:∃W6,W6=w3.setCells D 0 [.int .i64 4,.string (⟨(A5 r).toArray⟩:ByteArray),.int .i64 0,.float .f64 0,.bool false,.slice none 0 0]:=⟨_,rfl⟩;rw [<-hW6] at h2 h3 h4 h5;replace h1:=Hd h1;replace h2:=Hd h2;replace hW6:=Hd hW6;go_wp2_with (refine wpList_store_mid rfl 26 _ _ rfl D 0 _ rfl rfl h1.out Ae (one6 _ _ _ _ _ _ _ _) ?_;rw [<-hW6.out])
     go_meet
     exact ⟨4,(⟨(A5 r).toArray⟩:ByteArray),0,hdn.out,h2.out,h3,h4,h5⟩
   · obtain ⟨h1,h2,h2k,h3,h4,h5⟩:=hst.out W3 (Below.refl _ _) [.int .i64 3,.string ⟨#[]⟩,.int .i64 0,.float .f64 0,.bool false,.slice none 0 0] rfl
     have hDD:=hDw.out;have hfr6:Fr (fun k=>k=D) W3 (W3.setCells D 0 [.int .i64 3,.string ⟨#[]⟩,.int .i64 0,.float .f64 0,.bool false,.slice none 0 0]):=Fr.setCells (S:=fun k=>k=D) (fun _=>rfl) _ _ _ (Fr.refl _ W3);obtain ⟨W6,hW6⟩:∃W6,W6=W3.setCells D 0 [.int .i64 3,.string ⟨#[]⟩,.int .i64 0,.float .f64 0,.bool false,.slice none 0 0]:=⟨_,rfl⟩;rw [<-hW6] at h2 h2k h3 h4 h5 hfr6;have g4:W6.cell? ⟨w.heap.size,4,none⟩=some (.bool f):=hfr6.cell f4 (by show ¬w.heap.size=D;omega);have hdn:v.down=.mk 3 ⟨#[]⟩ (if f then 1 else 0) 0 false []:=by rw [V.down_eq,<-ek.out,<-ef.out];cases f<;>rfl
     replace h1:=Hd h1;replace hW6:=Hd hW6;clear hfr6;cases f
     · clear hDD
       replace h2:=Hd h2;replace hdn:=Hd hdn;go_wp2_with (refine wpList_store_mid rfl 26 _ _ rfl D 0 _ rfl rfl h1.out Ae (one6 _ _ _ _ _ _ _ _) ?_;rw [<-hW6.out])
       go_meet
       exact ⟨3,⟨#[]⟩,0,hdn.out,h2.out,h3,h4,h5⟩
     · have c0:=h2 0 _ rfl
       have c1:=h2 1 _ rfl;have c2:=h2 2 _ rfl;have c3:=h2 3 _ rfl;have c4:=h2 4 _ rfl;have c5:=h2 5 _ rfl;rw [Nat.zero_add] at c0 c1 c2 c3 c4 c5;have hz2:=h2k.frz 2 none;obtain ⟨W7,hW7⟩:∃W7,W7=W6.setCell ⟨D,2,none⟩ (.int .i64 1):=⟨_,rfl⟩;have hfr7:Fr (fun k=>k=D) W6 W7:=by rw [hW7];exact Fr.setCell (S:=fun k=>k=D) (Fr.refl _ W6) (fun _=>rfl) _
       have hr7:W7.rangeAt D 0 [.int .i64 3,.string ⟨#[]⟩,.int .i64 1,.float .f64 0,.bool false,.slice none 0 0]:=by
         rw [hW7];exact range6 (by rw [Ab (by simp)];exact c0) (by rw [Ab (by simp)];exact c1) (Ap c2) (by rw [Ab (by simp)];exact c3) (by rw [Ab (by simp)];exact c4) (by rw [Ab (by simp)];exact c5)
       have hrC7:W7.rangeAt (w.heap.size+1) 0 [.int .i64 0,.string ⟨#[]⟩,.int .i64 0,.float .f64 0,.bool false,.slice none 0 0]:=fun j u hj=>hfr7.cell (h3 j u hj) (by show ¬w.heap.size+1=D;omega);have hfC7:Blk W7 (w.heap.size+1):=by rw [hW7];exact h4.setCell _ _
       have hb7:Below w.heap.size w W7:=h5.trans (hfr7.below h5.size (fun j hj e=>by omega));clear hDD hfr7 c0 c1 c3 c4 c5 h2;replace hdn:=Hd hdn;replace hr7:=Hd hr7;replace hW7:=Hd hW7;go_wp2_with (refine wpList_store_mid rfl 26 _ _ rfl D 0 _ rfl rfl h1.out Ae (one6 _ _ _ _ _ _ _ _) ?_;rw [<-hW6.out])
       rw [<-hW7.out]
       go_meet
       exact ⟨3,⟨#[]⟩,1,hdn.out,hr7.out,hrC7,hfC7,hb7⟩
   · have hdn:v.down=.mk 4 t 0 0 false []:=by rw [V.down_eq,<-ek.out,et.out];rfl
     replace hdn:=Hd hdn;have hre:=Below.refl W3.heap.size W3;obtain ⟨h1,h2,_,h3,h4,h5⟩:=hst.out W3 hre [.int .i64 4,.string t,.int .i64 0,.float .f64 0,.bool false,.slice none 0 0] rfl;obtain ⟨W6,hW6⟩:∃W6,W6=W3.setCells D 0 [.int .i64 4,.string t,.int .i64 0,.float .f64 0,.bool false,.slice none 0 0]:=⟨_,rfl⟩;rw [<-hW6] at h2 h3 h4 h5;replace h1:=Hd h1;replace h2:=Hd h2;replace hW6:=Hd hW6;go_wp2_with (refine wpList_store_mid rfl 26 _ _ rfl D 0 _ rfl rfl h1.out Ae (one6 _ _ _ _ _ _ _ _) ?_;rw [<-hW6.out])
     go_meet
     exact ⟨4,t,0,hdn.out,h2.out,h3,h4,h5⟩
   · have htz:t.size<=4096:=by have:=hok.out.size;rw [et.out];exact this
     have hdn:v.down=.mk 2 (F3 t) 0 0 false []:=by rw [V.down_eq,<-ek.out,et.out];rfl
     replace hdn:=Hd hdn;have htzi:(t.size:Int)<=4096:=by omega
     clear hok;go_wp2_with fail
     go_loopw [4,5] (fun s i wr=>∃(j:Nat) (b:ByteArray),j<=t.size/\s=.string b/\i=.int .i64 (j:Int)/\b.data.toList=(t.data.toList.take j).map Eb/\wr=W3) (fun _ i _=>t.size - (intOf i).toNat)
     case atStart=>exact ⟨0,⟨#[]⟩,Nat.zero_le _,rfl,rfl,rfl,rfl⟩
     case round=>
       obtain ⟨j,b,hj,rfl,rfl,hb,hww⟩:=hrel;obtain rfl:=hww.symm;clear hww;have hbz:b.size=j:=by rw [Aw,hb,List.length_map,List.length_take,<-Aw];omega
       by_cases hlt:j<t.size
       · have hlti:(j:Int)<(t.size:Int):=by omega
         obtain ⟨c,hc⟩:∃c:UInt8,t[j]'hlt=c:=⟨_,rfl⟩;have hcl:t.data.toList[j]?=some c:=by rw [Lib.data_getElem? t j hlt,hc]
         have htk:(t.data.toList.take (j+1)).map Eb=(t.data.toList.take j).map Eb++[Eb c]:=by
           rw [List.take_add_one,hcl,List.map_append];rfl
         have hz1:¬9223372036854775807<b.size+1:=by omega
         by_cases h1:c=13\/c=10
         · have hbl:Eb c=32:=if_pos h1
           have hb2:(b++(⟨#[32]⟩:ByteArray)).data.toList=(t.data.toList.take (j+1)).map Eb:=by
             rw [ByteArray.data_append,Array.toList_append,hb,htk,hbl]
           replace hb2:=Hd hb2;replace hb:=Hd hb;replace hcl:=Hd hcl;replace htk:=Hd htk;replace hbz:=Hd hbz;obtain h1 | h1:=h1
           · have q1:((c.toNat:Int) == 10)=false:=by rw [h1];rfl
             have q2:((c.toNat:Int) == 13)=true:=by rw [h1];rfl
             have q3:(c.toNat:Int)=13:=by rw [h1];rfl
             clear h1;go_wp2
             go_roundw
             case rel=>exact ⟨j+1,_,by omega,rfl,by go_num,hb2.out,by first | rfl | trivial⟩
             case measure=>simp [intOf];omega
           · have q1:((c.toNat:Int) == 10)=true:=by rw [h1];rfl
             have q3:(c.toNat:Int)=10:=by rw [h1];rfl
             clear h1;go_wp2
             go_roundw
             case rel=>exact ⟨j+1,_,by omega,rfl,by go_num,hb2.out,by first | rfl | trivial⟩
             case measure=>simp [intOf];omega
         · have hbl:Eb c=c:=if_neg h1
           have n1:¬(c.toNat:Int)=10:=fun e=>h1 (.inr (UInt8.toNat_inj.1 (by show c.toNat=10;omega)));have n2:¬(c.toNat:Int)=13:=fun e=>h1 (.inl (UInt8.toNat_inj.1 (by show c.toNat=13;omega)));have q1:((c.toNat:Int) == 10)=false:=by simpa using n1
           have q2:((c.toNat:Int) == 13)=false:=by simpa using n2
           obtain ⟨u,hu⟩:∃u,t.extract j (j+1)=u:=⟨_,rfl⟩;have hul:u.data.toList=[c]:=by
             rw [<-hu,ByteArray.data_extract,Array.toList_extract,List.extract_eq_take_drop,Nat.add_sub_cancel_left];have:=hcl;rw [List.getElem?_eq_some_iff] at this;obtain ⟨p,e⟩:=this;rw [List.drop_eq_getElem_cons p,e];rfl
           have huz:u.size=1:=by rw [Aw,hul];rfl
           have hz2:¬9223372036854775807<b.size+u.size:=by omega
           have hj1:(j:Int)+1<=(t.size:Int):=by omega
           have hb2:(b++u).data.toList=(t.data.toList.take (j+1)).map Eb:=by
             rw [ByteArray.data_append,Array.toList_append,hb,htk,hbl,hul]
           replace hb2:=Hd hb2;replace hb:=Hd hb;replace hcl:=Hd hcl;replace htk:=Hd htk;replace hbz:=Hd hbz;replace hul:=Hd hul;replace huz:=Hd huz;clear h1 hbl;go_wp2
           go_roundw
           case rel=>exact ⟨j+1,_,by omega,rfl,by go_num,hb2.out,by first | rfl | trivial⟩
           case measure=>simp [intOf];omega
       · have hlti:¬(j:Int)<(t.size:Int):=by omega
         have hbe:b=F3 t:=by
           apply ByteArray.ext;apply Array.toList_inj.1;rw [hb,List.take_of_length_le (by rw [<-Aw];omega)];show _=(t.data.map Eb).toList;rw [Array.toList_map]
         clear hb hbz;rw [hbe];have hre:=Below.refl W3.heap.size W3;obtain ⟨B,hB⟩:∃B,B=F3 t:=⟨_,rfl⟩;rw [<-hB];rw [<-hB] at hdn;clear hB hbe;obtain ⟨h1,h2,_,h3,h4,h5⟩:=hst.out W3 hre [.int .i64 2,.string B,.int .i64 0,.float .f64 0,.bool false,.slice none 0 0] rfl;obtain ⟨W6,hW6⟩:∃W6,W6=W3.setCells D 0 [.int .i64 2,.string B,.int .i64 0,.float .f64 0,.bool false,.slice none 0 0]:=⟨_,rfl⟩;rw [<-hW6] at h2 h3 h4 h5;replace h1:=Hd h1;replace h2:=Hd h2;replace hW6:=Hd hW6;go_wp2_with (refine wpList_store_mid rfl 26 _ _ rfl D 0 _ rfl rfl h1.out Ae (one6 _ _ _ _ _ _ _ _) ?_;rw [<-hW6.out])
         go_meet
         exact ⟨2,B,0,hdn.out,h2.out,h3,h4,h5⟩
   · have ht4:4<=t.size:=by
       rw [et.out];exact fine11 hp.out.fine ek.out.symm
     have ht4i:(4:Int)<=(t.size:Int):=by omega
     obtain ⟨q,hq⟩:∃q,t.extract 4 t.size=q:=⟨_,rfl⟩;have hdn:v.down=.mk 4 q 0 0 false []:=by rw [V.down_eq,<-ek.out,<-hq,et.out];rfl
     replace hdn:=Hd hdn;have hre:=Below.refl W3.heap.size W3;obtain ⟨h1,h2,_,h3,h4,h5⟩:=hst.out W3 hre [.int .i64 4,.string q,.int .i64 0,.float .f64 0,.bool false,.slice none 0 0] rfl;obtain ⟨W6,hW6⟩:∃W6,W6=W3.setCells D 0 [.int .i64 4,.string q,.int .i64 0,.float .f64 0,.bool false,.slice none 0 0]:=⟨_,rfl⟩;rw [<-hW6] at h2 h3 h4 h5;replace h1:=Hd h1;replace h2:=Hd h2;replace hW6:=Hd hW6;go_wp2_with (refine wpList_store_mid rfl 26 _ _ rfl D 0 _ rfl rfl h1.out Ae (one6 _ _ _ _ _ _ _ _) ?_;rw [<-hW6.out])
     go_meet
     exact ⟨4,q,0,hdn.out,h2.out,h3,h4,h5⟩
 rename World=>W6
 obtain ⟨k', T,I,hdn,hr6,hrC6,hfC6,hb6⟩:=hcut
 have htC:=Aq (n:=6) hrC6 hfC6 rfl
 have hrR:(W6.setCells (w.heap.size+1) 0 [.int .i64 k', .string T,.int .i64 I,.float .f64 0,.bool false,.slice none 0 0]).rangeAt (w.heap.size+1) 0 [.int .i64 k', .string T,.int .i64 I,.float .f64 0,.bool false,.slice none 0 0]:=World.rangeAt_setCells_same _ _ _ _ htC
 have hfin:Below w.heap.size W6 (W6.setCells (w.heap.size+1) 0 [.int .i64 k', .string T,.int .i64 I,.float .f64 0,.bool false,.slice none 0 0]):=(Fr.setCells (S:=fun k=>k=w.heap.size+1) (fun _=>rfl) _ _ _ (Fr.refl _ W6)).below hb6.size (fun j hj e=>by omega)
 replace hdn:=Hd hdn
 replace htC:=Hd htC
 replace hr6:=Hd hr6
 replace hrR:=Hd hrR
 replace hfin:=Hd hfin
 replace hb6:=Hd hb6
 clear hrC6 hfC6 hst
 go_wp2_with (first
   | (refine wpList_load_mid rfl 26 _ rfl D 0 rfl _ _ hr6.out Tryz.underlying26 rfl Ae ?_)
   | (refine wpList_store_mid rfl 26 _ _ rfl (w.heap.size+1) 0 _ rfl rfl htC.out Ae (one6 _ _ _ _ _ _ _ _) ?_))
 refine bodyPost_ret (Ar (v:=.agg #[.int .i64 k', .string T,.int .i64 I,.float .f64 0,.bool false,.slice none 0 0]) rfl rfl (run_loadVar_mid (P:=Tryz.prog) _ _ 0 26 _ _ hrR.out Tryz.underlying26 rfl Ae)) rfl ?_
 exact ⟨none,0,by rw [hdn.out];rfl,by rw [hdn.out];exact RV.leaf _ _ _ _ _ _ _ _,hb6.out.trans hfin.out⟩
set_option maxRecDepth 100000 in
set_option maxHeartbeats 3200000 in
theorem E1 {K:Int} (hK:K=1\/K=2\/K=3\/K=4\/K=6) {v:V} {t:ByteArray} {i:Int} {r:Nat} {f:Bool} {a:Option Addr} {n cap:Nat} {d:Int} {w:World} (hp:RDownH v K t i r f a n cap d w) :
   Calls Tryz.prog 32 #[.agg #[.int .i64 K,.string t,.int .i64 i,.float .f64 r,.bool f,.slice a n cap]] w (Gn v w):=by
 have h7:(K == 7)=false:=by simp;omega
 have h8:(K == 8)=false:=by simp;omega
 have h9:(K == 9)=false:=by simp;omega
 have h10:(K == 10)=false:=by simp;omega
 have h11:(K == 11)=false:=by simp;omega
 have n7:¬K=7:=by omega
 have n8:¬K=8:=by omega
 have n9:¬K=9:=by omega
 have n10:¬K=10:=by omega
 have n11:¬K=11:=by omega
 have h5:(K == 5)=false:=by simp;omega
 have h12:(K == 12)=false:=by simp;omega
 have h13:(K == 13)=false:=by simp;omega
 have h14:(K == 14)=false:=by simp;omega
 have n5:¬K=5:=by omega
 have n12:¬K=12:=by omega
 have n13:¬K=13:=by omega
 have n14:¬K=14:=by omega
 replace hK:=Hd hK
 have hpar:=Hd hp.par
 have hrng:=Hd hp.rng
 replace hp:=hp.d
 obtain ⟨ek,et,ei,er,ef,en⟩:=hp.val.len
 have hra:=(V.ranged_eq v).1 hp.ranged
 have hLv:=hp.laid
 obtain ⟨W2,hW2⟩:∃W2,W2=(w.alloc (.cells #[.int .i64 K,.string t,.int .i64 i,.float .f64 r,.bool f,.slice a n cap] 26)).alloc (.cells #[.int .i64 0,.string ⟨#[]⟩,.int .i64 0,.float .f64 0,.bool false,.slice none 0 0] 26):=⟨_,rfl⟩
 have hb2:Below w.heap.size w W2:=by rw [hW2];exact ((Below.refl _ _).alloc (Nat.le_refl _) _).alloc (by simp) _
 have hs2:W2.heap.size=w.heap.size+2:=by rw [hW2];simp
 have hB:∀q u,#[.int .i64 K,.string t,.int .i64 i,.float .f64 r,.bool f,.slice a n cap][q]?=some u->W2.cell? ⟨w.heap.size,q,none⟩=some u:=fun q u h=>by rw [hW2,World.cell?_alloc_past _ _ _ (by simp),World.cell?_alloc_new];exact h
 have hrC:W2.rangeAt (w.heap.size+1) 0 [.int .i64 0,.string ⟨#[]⟩,.int .i64 0,.float .f64 0,.bool false,.slice none 0 0]:=fun q u h=>by
   rw [Nat.zero_add,hW2,show w.heap.size+1=(w.alloc (.cells #[.int .i64 K,.string t,.int .i64 i,.float .f64 r,.bool f,.slice a n cap] 26)).heap.size by simp,World.cell?_alloc_new];simpa using h
 have hfC:Blk W2 (w.heap.size+1):=by rw [hW2,show w.heap.size+1=(w.alloc (.cells #[.int .i64 K,.string t,.int .i64 i,.float .f64 r,.bool f,.slice a n cap] 26)).heap.size by simp];exact Blk.new _ _ _
 have hcl:=hfC.lt
 have e0:=hB 0 _ rfl
 have e1:=hB 1 _ rfl
 have e2:=hB 2 _ rfl
 have e3:=hB 3 _ rfl
 have e4:=hB 4 _ rfl
 have e5:=hB 5 _ rfl
 clear hB
 obtain ⟨W3,hW3⟩:∃W3,W3=W2.alloc (.cells #[.int .i64 K,.string t,.int .i64 i,.float .f64 r,.bool f,.slice a n cap] 26):=⟨_,rfl⟩
 obtain ⟨D,hD⟩:∃D,W2.heap.size=D:=⟨_,rfl⟩
 have hb3:Below D W2 W3:=by rw [hW3,<-hD];exact (Below.refl _ _).alloc (Nat.le_refl _) _
 have hrD:W3.rangeAt D 0 [.int .i64 K,.string t,.int .i64 i,.float .f64 r,.bool f,.slice a n cap]:=by
   rw [hW3,<-hD];intro q u hq;rw [Nat.zero_add,World.cell?_alloc_new];simpa using hq
 have hkD:Blk W3 D:=by rw [hW3,<-hD];exact Blk.new _ _ _
 have hs3:W3.heap.size=D+1:=by rw [hW3,<-hD];simp
 have hDw:D=w.heap.size+2:=by rw [<-hD];exact hs2
 have f0:W3.cell? ⟨w.heap.size,0,none⟩=some (.int .i64 K):=(hb3.cell (show w.heap.size<D by omega)).trans e0
 have f1:W3.cell? ⟨w.heap.size,1,none⟩=some (.string t):=(hb3.cell (show w.heap.size<D by omega)).trans e1
 have f3:W3.cell? ⟨w.heap.size,3,none⟩=some (.float .f64 r):=(hb3.cell (show w.heap.size<D by omega)).trans e3
 have f4:W3.cell? ⟨w.heap.size,4,none⟩=some (.bool f):=(hb3.cell (show w.heap.size<D by omega)).trans e4
 have f5:W3.cell? ⟨w.heap.size,5,none⟩=some (.slice a n cap):=(hb3.cell (show w.heap.size<D by omega)).trans e5
 have hrC3:W3.rangeAt (w.heap.size+1) 0 [.int .i64 0,.string ⟨#[]⟩,.int .i64 0,.float .f64 0,.bool false,.slice none 0 0]:=Af (hD ▸ hb3) hrC
 have hfC3:Blk W3 (w.heap.size+1):=hfC.of_block (hb3.block _ (by omega))
 have hb03:Below w.heap.size w W3:=hb2.trans (hb3.mono (by omega))
 replace hW2:=Hd hW2
 replace hW3:=Hd hW3
 replace hb2:=Hd hb2
 replace hb3:=Hd hb3
 replace hb03:=Hd hb03
 replace hs2:=Hd hs2
 replace hs3:=Hd hs3
 replace hrC:=Hd hrC
 replace hfC:=Hd hfC
 replace hrC3:=Hd hrC3
 replace hfC3:=Hd hfC3
 replace hrD:=Hd hrD
 replace hkD:=Hd hkD
 replace ek:=Hd ek
 replace et:=Hd et
 replace ei:=Hd ei
 replace er:=Hd er
 replace ef:=Hd ef
 replace en:=Hd en
 replace hra:=Hd hra
 replace hLv:=Hd hLv
 replace hp:=Hd hp
 replace hD:=Hd hD
 replace hDw:=Hd hDw
 have hrA:W2.rangeAt w.heap.size 0 [.int .i64 K,.string t,.int .i64 i,.float .f64 r,.bool f,.slice a n cap]:=range6 e0 e1 e2 e3 e4 e5
 replace hrA:=Hd hrA
 go_enter Tryz.func32,Tryz.ntmps32
 go_upto_region 1 with fail
 rw [<-hW2.out]
 go_upto_region 2 with (refine wpList_load_mid rfl 26 _ rfl w.heap.size 0 rfl _ _ hrA.out Tryz.underlying26 rfl Ae ?_)
 rw [<-hW3.out,hD.out]
 clear e0 e1 e2 e3 e4 e5
 have hdn:v.down=v:=by
   have hk:=ek.out;have hK:=hK.out;rw [V.down_eq,if_neg (by omega),if_neg (by omega),if_neg (by omega),if_neg (by omega),if_neg (by omega),if_neg (by omega)]
 have hvl:v.list=[]:=(Du (by have:=hp.out.fine;rw [V.fine_eq,Bool.and_eq_true,Bool.and_eq_true] at this;exact this.1.1)).list (by have hk:=ek.out;have hK:=hK.out;omega)
 have hv6:v=.mk K t i r f []:=by
   have h1:=ek.out;have h2:=et.out;have h3:=ei.out;have h4:=er.out;have h5:=ef.out;cases v
   simp only [V.kind,V.text,V.int,V.real,V.flag,V.list] at h1 h2 h3 h4 h5 hvl;subst h1 h2 h3 h4 h5 hvl;rfl
 have hn0:n=0:=by rw [en.out,hvl];rfl
 replace hdn:=Hd hdn
 replace hv6:=Hd hv6
 replace hvl:=Hd hvl
 have htC:=Aq (n:=6) hrC3.out hfC3.out rfl
 replace htC:=Hd htC
 go_wp2_with (first
   | (refine wpList_load_mid rfl 26 _ rfl D 0 rfl _ _ hrD.out Tryz.underlying26 rfl Ae ?_)
   | (refine wpList_store_mid rfl 26 _ _ rfl (w.heap.size+1) 0 _ rfl rfl htC.out Ae (one6 _ _ _ _ _ _ _ _) ?_))
 have hrR:(W3.setCells (w.heap.size+1) 0 [.int .i64 K,.string t,.int .i64 i,.float .f64 r,.bool f,.slice a n cap]).rangeAt (w.heap.size+1) 0 [.int .i64 K,.string t,.int .i64 i,.float .f64 r,.bool f,.slice a n cap]:=World.rangeAt_setCells_same _ _ _ _ htC.out
 refine bodyPost_ret (Ar (v:=.agg #[.int .i64 K,.string t,.int .i64 i,.float .f64 r,.bool f,.slice a n cap]) rfl rfl (run_loadVar_mid (P:=Tryz.prog) _ _ 0 26 _ _ hrR Tryz.underlying26 rfl Ae)) rfl ?_
 have hfin:Below w.heap.size W3 (W3.setCells (w.heap.size+1) 0 [.int .i64 K,.string t,.int .i64 i,.float .f64 r,.bool f,.slice a n cap]):=(Fr.setCells (S:=fun k=>k=w.heap.size+1) (fun _=>rfl) _ _ _ (Fr.refl _ W3)).below (by have:=hs3.out;have:=hDw.out;omega) (fun j hj e=>by omega)
 subst hn0
 refine ⟨a,cap,by rw [hdn.out,hv6.out];rfl,?_,hb03.out.trans hfin⟩
 rw [hdn.out,hv6.out];exact RV.leaf _ _ _ _ _ _ _ _
def RDownIH (v:V):Prop:=∀x∈v.list,∀(k:Int) (t:ByteArray) (i:Int) (r:Nat) (f:Bool) (a:Option Addr) (n cap:Nat) (d:Int) (w:World),RDownH x k t i r f a n cap d w ->
   Calls Tryz.prog 32 #[.agg #[.int .i64 k,.string t,.int .i64 i,.float .f64 r,.bool f,.slice a n cap]] w (Gn x w)
namespace R2
set_option maxRecDepth 100000 in
set_option maxHeartbeats 6400000 in
theorem Ga {K:Int} (hK:K=5\/K=12\/K=13\/K=14) {v:V} (ih:RDownIH v) {t:ByteArray} {i:Int} {r:Nat} {f:Bool} {a:Option Addr} {n cap:Nat} {d:Int} {w:World} (hp:RDownH v K t i r f a n cap d w) :
   Calls Tryz.prog 32 #[.agg #[.int .i64 K,.string t,.int .i64 i,.float .f64 r,.bool f,.slice a n cap]] w (Gn v w):=by
 have h7:(K == 7)=false:=by simp;omega
 have h8:(K == 8)=false:=by simp;omega
 have h9:(K == 9)=false:=by simp;omega
 have h10:(K == 10)=false:=by simp;omega
 have h11:(K == 11)=false:=by simp;omega
 have n7:¬K=7:=by omega
 have n8:¬K=8:=by omega
 have n9:¬K=9:=by omega
 have n10:¬K=10:=by omega
 have n11:¬K=11:=by omega
 replace hK:=Hd hK
 replace ih:=Hd ih
 have hpar:=Hd hp.par
 have hrng:=Hd hp.rng
 replace hp:=hp.d
 obtain ⟨ek,et,ei,er,ef,en⟩:=hp.val.len
 have hra:=(V.ranged_eq v).1 hp.ranged
 have hLv:=hp.laid
 obtain ⟨W2,hW2⟩:∃W2,W2=(w.alloc (.cells #[.int .i64 K,.string t,.int .i64 i,.float .f64 r,.bool f,.slice a n cap] 26)).alloc (.cells #[.int .i64 0,.string ⟨#[]⟩,.int .i64 0,.float .f64 0,.bool false,.slice none 0 0] 26):=⟨_,rfl⟩
 have hb2:Below w.heap.size w W2:=by rw [hW2];exact ((Below.refl _ _).alloc (Nat.le_refl _) _).alloc (by simp) _
 have hs2:W2.heap.size=w.heap.size+2:=by rw [hW2];simp
 have hB:∀q u,#[.int .i64 K,.string t,.int .i64 i,.float .f64 r,.bool f,.slice a n cap][q]?=some u->W2.cell? ⟨w.heap.size,q,none⟩=some u:=fun q u h=>by rw [hW2,World.cell?_alloc_past _ _ _ (by simp),World.cell?_alloc_new];exact h
 have hrC:W2.rangeAt (w.heap.size+1) 0 [.int .i64 0,.string ⟨#[]⟩,.int .i64 0,.float .f64 0,.bool false,.slice none 0 0]:=fun q u h=>by
   rw [Nat.zero_add,hW2,show w.heap.size+1=(w.alloc (.cells #[.int .i64 K,.string t,.int .i64 i,.float .f64 r,.bool f,.slice a n cap] 26)).heap.size by simp,World.cell?_alloc_new];simpa using h
 have hfC:Blk W2 (w.heap.size+1):=by rw [hW2,show w.heap.size+1=(w.alloc (.cells #[.int .i64 K,.string t,.int .i64 i,.float .f64 r,.bool f,.slice a n cap] 26)).heap.size by simp];exact Blk.new _ _ _
 have hcl:=hfC.lt
 have e0:=hB 0 _ rfl
 have e1:=hB 1 _ rfl
 have e2:=hB 2 _ rfl
 have e3:=hB 3 _ rfl
 have e4:=hB 4 _ rfl
 have e5:=hB 5 _ rfl
 clear hB
 obtain ⟨W3,hW3⟩:∃W3,W3=W2.alloc (.cells #[.int .i64 K,.string t,.int .i64 i,.float .f64 r,.bool f,.slice a n cap] 26):=⟨_,rfl⟩
 obtain ⟨D,hD⟩:∃D,W2.heap.size=D:=⟨_,rfl⟩
 have hb3:Below D W2 W3:=by rw [hW3,<-hD];exact (Below.refl _ _).alloc (Nat.le_refl _) _
 have hrD:W3.rangeAt D 0 [.int .i64 K,.string t,.int .i64 i,.float .f64 r,.bool f,.slice a n cap]:=by
   rw [hW3,<-hD];intro q u hq;rw [Nat.zero_add,World.cell?_alloc_new];simpa using hq
 have hkD:Blk W3 D:=by rw [hW3,<-hD];exact Blk.new _ _ _
 have hs3:W3.heap.size=D+1:=by rw [hW3,<-hD];simp
 have hDw:D=w.heap.size+2:=by rw [<-hD];exact hs2
 have f0:W3.cell? ⟨w.heap.size,0,none⟩=some (.int .i64 K):=(hb3.cell (show w.heap.size<D by omega)).trans e0
 have f1:W3.cell? ⟨w.heap.size,1,none⟩=some (.string t):=(hb3.cell (show w.heap.size<D by omega)).trans e1
 have f3:W3.cell? ⟨w.heap.size,3,none⟩=some (.float .f64 r):=(hb3.cell (show w.heap.size<D by omega)).trans e3
 have f4:W3.cell? ⟨w.heap.size,4,none⟩=some (.bool f):=(hb3.cell (show w.heap.size<D by omega)).trans e4
 have f5:W3.cell? ⟨w.heap.size,5,none⟩=some (.slice a n cap):=(hb3.cell (show w.heap.size<D by omega)).trans e5
 have hrC3:W3.rangeAt (w.heap.size+1) 0 [.int .i64 0,.string ⟨#[]⟩,.int .i64 0,.float .f64 0,.bool false,.slice none 0 0]:=Af (hD ▸ hb3) hrC
 have hfC3:Blk W3 (w.heap.size+1):=hfC.of_block (hb3.block _ (by omega))
 have hb03:Below w.heap.size w W3:=hb2.trans (hb3.mono (by omega))
 replace hW2:=Hd hW2
 replace hW3:=Hd hW3
 replace hb2:=Hd hb2
 replace hb3:=Hd hb3
 replace hb03:=Hd hb03
 replace hs2:=Hd hs2
 replace hs3:=Hd hs3
 replace hrC:=Hd hrC
 replace hfC:=Hd hfC
 replace hrC3:=Hd hrC3
 replace hfC3:=Hd hfC3
 replace hrD:=Hd hrD
 replace hkD:=Hd hkD
 replace ek:=Hd ek
 replace et:=Hd et
 replace ei:=Hd ei
 replace er:=Hd er
 replace ef:=Hd ef
 replace en:=Hd en
 replace hra:=Hd hra
 replace hLv:=Hd hLv
 replace hp:=Hd hp
 replace hD:=Hd hD
 replace hDw:=Hd hDw
 have hrA:W2.rangeAt w.heap.size 0 [.int .i64 K,.string t,.int .i64 i,.float .f64 r,.bool f,.slice a n cap]:=range6 e0 e1 e2 e3 e4 e5
 replace hrA:=Hd hrA
 go_enter Tryz.func32,Tryz.ntmps32
 go_upto_region 1 with fail
 rw [<-hW2.out]
 go_upto_region 2 with (refine wpList_load_mid rfl 26 _ rfl w.heap.size 0 rfl _ _ hrA.out Tryz.underlying26 rfl Ae ?_)
 rw [<-hW3.out,hD.out]
 clear e0 e1 e2 e3 e4 e5
 have hdn:v.down=.mk 5 ⟨#[]⟩ 0 0 false (v.list.map V.down):=by
   have hk:=ek.out;have hK:=hK.out;rw [V.down_eq,if_neg (by omega),if_neg (by omega),if_neg (by omega),if_neg (by omega),if_neg (by omega),if_pos (by omega)]
 have hfe:=hp.out.fine
 rw [V.fine_eq,Bool.and_eq_true] at hfe
 have hn9:n<=100000:=by
   have h1:=hp.out.count;have h2:=V.length_le v.list;have h3:=v.count_eq;have h4:=en.out;omega
 replace hdn:=Hd hdn
 replace hfe:=Hd hfe
 have hDD:=hDw.out
 have htD:=Aq (n:=6) hrD.out hkD.out rfl
 obtain ⟨W5,hW5⟩:∃W5,W5=W3.setCells D 0 [.int .i64 5,.string ⟨#[]⟩,.int .i64 0,.float .f64 0,.bool false,.slice none 0 0]:=⟨_,rfl⟩
 have hb5:Below D W2 W5:=by
   rw [hW5];exact hb3.out.trans ((Fr.setCells (S:=fun k=>k=D) (fun _=>rfl) _ _ _ (Fr.refl _ W3)).below (by have:=hs3.out;omega) (fun j hj e=>by omega))
 have hrg:W5.rangeAt D 0 [.int .i64 5,.string ⟨#[]⟩,.int .i64 0,.float .f64 0,.bool false,.slice none 0 0]:=by rw [hW5];exact World.rangeAt_setCells_same _ _ _ _ htD
 have hbk:Blk W5 D:=by rw [hW5];exact Blk.setCells _ _ _ hkD.out
 have hs5:D+1<=W5.heap.size:=by
   have h1:Fr (fun k=>k=D) W3 W5:=by rw [hW5];exact Fr.setCells (S:=fun k=>k=D) (fun _=>rfl) _ _ _ (Fr.refl _ W3)
   have:=h1.size;have:=hs3.out;omega
 have g5:W5.cell? ⟨w.heap.size,5,none⟩=some (.slice a n cap):=by
   have h1:Fr (fun k=>k=D) W3 W5:=by rw [hW5];exact Fr.setCells (S:=fun k=>k=D) (fun _=>rfl) _ _ _ (Fr.refl _ W3)
   exact h1.cell f5 (by show ¬w.heap.size=D;omega)
 clear hDD
 replace htD:=Hd htD
 replace hW5:=Hd hW5
 replace hb5:=Hd hb5
 replace hrg:=Hd hrg
 replace hbk:=Hd hbk
 replace hs5:=Hd hs5
 clear f1 f3 f4 f5
 go_upto_if 67 with fail
 go_cut [67] from 67 to 71 (fun s67 wx=>s67=.bool true/\wx=W3)
 case first=>
   obtain rfl | rfl | rfl | rfl:=hK.out
   all_goals
     go_wp2_with fail
     go_meet
     exact ⟨rfl,rfl⟩
 obtain ⟨rfl,hww⟩:=hcut
 obtain rfl:=hww.symm
 clear hww
 go_wp2_with (first
   | (refine wpList_store_mid rfl 26 _ _ rfl D 0 _ rfl rfl htD.out Ae (one6 _ _ _ _ _ _ _ _) ?_;rw [<-hW5.out]))
 clear g5 f0
 rw [hD.out] at hcl
 have hs2' : D=w.heap.size+2:=hDw.out
 go_loopw [76] (fun q wr=>∃(j:Nat) (lv:Value) (css:List (List Value)),j<=n/\q=.int .i64 j/\wr.ownsRow (D+1) 26 6 lv j css.flatten/\RVs (nf (D+1) lv.ownBlock wr) css ((v.list.take j).map V.down) /\
     wr.rangeAt D 0 [.int .i64 5,.string ⟨#[]⟩,.int .i64 0,.float .f64 0,.bool false,lv]/\Blk wr D/\Below D W2 wr/\D+1<=wr.heap.size) (fun q _=>n - (intOf q).toNat)
 case atStart=>exact ⟨0,_,[],Nat.zero_le _,rfl,World.ownsRow_nil _ _ _ _,RVs.nil _,hrg.out,hbk.out,hb5.out,by have:=hs5.out;omega⟩
 case round=>
   obtain ⟨j,lv,css,hj,rfl,hown,hrs,hr,hk,hbel,hsz⟩:=hrel;clear hrg hbk hb5 hs5;have hbw:Below w.heap.size w wr:=hb2.out.trans (hbel.mono (by omega));by_cases hlt:j<n
   · have hlti:(j:Int)<(n:Int):=by omega
     have hvw:=hp.out.val.mono (Aa hbw);rw [show Ai K t i r f a n cap=Ai v.kind v.text v.int v.real v.flag a n cap by rw [<-ek.out,<-et.out,<-ei.out,<-er.out,<-ef.out]] at hvw;obtain ⟨x,bb,o,ax,cx,hxj,hmem,rfl,hx,d0,d1,d2,d3,d4,d5⟩:=hvw.elem' hlt;have hts:v.list.take (j+1)=v.list.take j++[x]:=by
       obtain ⟨h1,h2⟩:=List.getElem?_eq_some_iff.1 hxj;rw [List.take_succ_eq_append_getElem h1,h2]
     obtain ⟨ae,ce,rfl⟩:=(Reads.of_owns hown).shape;obtain ⟨W4,hW4⟩:∃W4,W4=wr.alloc (.cells #[.int .i64 x.kind,.string x.text,.int .i64 x.int,.float .f64 x.real,.bool x.flag,.slice ax x.list.length cx] 26):=⟨_,rfl⟩;have hb4:Below wr.heap.size wr W4:=by rw [hW4];exact (Below.refl _ _).alloc (Nat.le_refl _) _
     have hs4:W4.heap.size=wr.heap.size+1:=by rw [hW4];simp
     have hr6:W4.rangeAt wr.heap.size 0 [.int .i64 x.kind,.string x.text,.int .i64 x.int,.float .f64 x.real,.bool x.flag,.slice ax x.list.length cx]:=by
       rw [hW4];intro q u hq;rw [Nat.zero_add,World.cell?_alloc_new];simpa using hq
     have hrow:=owns_fr hown (Fr.of_below hb4) (fun k hk hle=>by have:=(At hown k hk).2;omega);have hrvs:=hrs.mono (nf_below (B:=D+1) (own:=(Value.slice ae j ce).ownBlock) hb4);have hrD:=Af hb4 hr;have hblk:=hk.of_block (hb4.block D (by omega));have hc5:W4.cell? ⟨D,5,none⟩=some (.slice ae j ce):=by have:=hrD 5 _ rfl;simpa using this
     have hDl:D<W4.heap.size:=by omega
     have hDs:D+1<=W4.heap.size:=by omega
     have hDo:¬(Value.slice ae j ce).ownBlock=some D:=fun e=>by have:=(At hrow D e).1;omega
     have hbel4:Below D W2 W4:=hbel.trans (hb4.mono (by omega));have hlv4:LaidV W4.heap.size W4:=((hLv.out.below (hbw.trans (hb4.mono hbw.size)) (Nat.le_refl _)).mono (by have:=hbw.size;omega));have hpar4:=Hd (hpar.out.below (hbw.trans (hb4.mono hbw.size)));have hrng4:=Hd (hrng.out.below (hbw.trans (hb4.mono hbw.size)));have hih:∀wx,Below W4.heap.size W4 wx->Calls Tryz.prog 32 #[.agg #[.int .i64 x.kind,.string x.text,.int .i64 x.int,.float .f64 x.real,.bool x.flag,.slice ax x.list.length cx]] wx (Gn x wx):=fun wx hI=>
       ih.out x hmem _ _ _ _ _ _ _ _ (d - 1) wx ⟨⟨(hx.mono (Aa hb4)).mono (Aa hI),D1 hfe.out.2 x hmem,V.rangedL_mem hra.out.2.2.2 x hmem,by
         have h1:=V.count_mem hmem;have h2:=hp.out.count;have h3:=v.count_eq;omega,(hlv4.below hI (Nat.le_refl _)).mono hI.size⟩,hpar4.out.below hI,hrng4.out.below hI⟩
     have hjn9:j+1<1000000000:=by omega
     replace hW4:=Hd hW4;replace hih:=Hd hih;replace hrow:=Hd hrow;replace hrvs:=Hd hrvs;replace hts:=Hd hts;clear hown hrs hr hk hbel hx hvw hb4;replace hr6:=Hd hr6;replace hrD:=Hd hrD;replace hc5:=Hd hc5;go_upto_region 30 with fail
     rw [<-hW4.out];replace hih:=hih.out;replace hrow:=hrow.out;replace hrvs:=hrvs.out;replace hr6:=hr6.out;replace hrD:=hrD.out;replace hc5:=hc5.out;obtain ⟨pre,hpre⟩:∃pre,pre=(v.list.take j).map V.down:=⟨_,rfl⟩;rw [<-hpre] at hrvs
     refine wp_region_rely (l:=[_,_,_,_,_,_,_,_]) (fun _=>True) (Below W4.heap.size W4) dlR (fun kG_=>([fun v _=>v=.pointer (some ⟨D,5,none⟩),fun v _=>v=.slice ae j ce,fun v _=>v=.agg #[.int .i64 x.kind,.string x.text,.int .i64 x.int,.float .f64 x.real,.bool x.flag,.slice ax x.list.length cx],fun v w=>∃(a1:Option Addr) (c1:Nat),v=.agg #[.int .i64 x.down.kind,.string x.down.text,.int .i64 x.down.int,.float .f64 x.down.real,.bool x.down.flag,.slice a1 x.down.list.length c1]/\RV (A8 W4.heap.size w) (Ai x.down.kind x.down.text x.down.int x.down.real x.down.flag a1 x.down.list.length c1) x.down,fun v w=>∃(b:Nat) (a1:Option Addr) (c1:Nat),v=.slice (some ⟨b,0,none⟩) 1 1/\w.heap[b]?=some (.cells #[.int .i64 x.down.kind,.string x.down.text,.int .i64 x.down.int,.float .f64 x.down.real,.bool x.down.flag,.slice a1 x.down.list.length c1] 26 (0,0))/\RV (A8 W4.heap.size w) (Ai x.down.kind x.down.text x.down.int x.down.real x.down.flag a1 x.down.list.length c1) x.down,fun v w=>DApp D W4 (.slice ae j ce) j css pre x.down v w,fun v _=>v=.pointer (some ⟨D,5,none⟩),fun v w=>∃(v1:Value) (w1:World),w=w1.setCell ⟨D,5,none⟩ v1/\DApp D W4 (.slice ae j ce) j css pre x.down v1 w1]:List (Value->World->Prop)).getD kG_ (fun _ _=>True)) (eats [(4,3),(5,4),(7,5)]) (isIn [5,7]) (by kernel_rfl) (by kernel_rfl) (by kernel_rfl) trivial ((Below.refl _ _).drew) ?_ ?_ ?_ ?_
     · intro i kG_ u w w' hne hE hg hr
       rcases kG_ with _ | _ | _ | _ | _ | _ | _ | _ | kG_
       · exact hg
       · exact hg
       · exact hg
       · replace hg:(fun (v:Value) (w:World)=>∃(a1:Option Addr) (c1:Nat),v=.agg #[.int .i64 x.down.kind,.string x.down.text,.int .i64 x.down.int,.float .f64 x.down.real,.bool x.down.flag,.slice a1 x.down.list.length c1]/\RV (A8 W4.heap.size w) (Ai x.down.kind x.down.text x.down.int x.down.real x.down.flag a1 x.down.list.length c1) x.down) u w:=hg
         show (fun (v:Value) (w:World)=>∃(a1:Option Addr) (c1:Nat),v=.agg #[.int .i64 x.down.kind,.string x.down.text,.int .i64 x.down.int,.float .f64 x.down.real,.bool x.down.flag,.slice a1 x.down.list.length c1]/\RV (A8 W4.heap.size w) (Ai x.down.kind x.down.text x.down.int x.down.real x.down.flag a1 x.down.list.length c1) x.down) u w';dsimp only at hg ⊢;replace hE:exB _ _ i 3=false:=hE;replace hne:3≠i:=hne;unfold dlR at hr;split at hr
         all_goals first
           | exact absurd rfl hne
           | exact absurd (hE.symm.trans (by decide +kernel:exB _ _ _ _=true)) (by decide)
           | (subst hr;exact hg)
           | ((obtain ⟨a1,c1,h1,h2⟩:=hg;exact ⟨a1,c1,h1,h2.mono (E7 hr)⟩))
       · replace hg:(fun (v:Value) (w:World)=>∃(b:Nat) (a1:Option Addr) (c1:Nat),v=.slice (some ⟨b,0,none⟩) 1 1/\w.heap[b]?=some (.cells #[.int .i64 x.down.kind,.string x.down.text,.int .i64 x.down.int,.float .f64 x.down.real,.bool x.down.flag,.slice a1 x.down.list.length c1] 26 (0,0))/\RV (A8 W4.heap.size w) (Ai x.down.kind x.down.text x.down.int x.down.real x.down.flag a1 x.down.list.length c1) x.down) u w:=hg
         show (fun (v:Value) (w:World)=>∃(b:Nat) (a1:Option Addr) (c1:Nat),v=.slice (some ⟨b,0,none⟩) 1 1/\w.heap[b]?=some (.cells #[.int .i64 x.down.kind,.string x.down.text,.int .i64 x.down.int,.float .f64 x.down.real,.bool x.down.flag,.slice a1 x.down.list.length c1] 26 (0,0))/\RV (A8 W4.heap.size w) (Ai x.down.kind x.down.text x.down.int x.down.real x.down.flag a1 x.down.list.length c1) x.down) u w';dsimp only at hg ⊢;replace hE:exB _ _ i 4=false:=hE;replace hne:4≠i:=hne;unfold dlR at hr;split at hr
         all_goals first
           | exact absurd rfl hne
           | exact absurd (hE.symm.trans (by decide +kernel:exB _ _ _ _=true)) (by decide)
           | (subst hr;exact hg)
           | ((obtain ⟨b,a1,c1,h1,h2,h3⟩:=hg;exact ⟨b,a1,c1,h1,(hr.block b (Array.getElem?_eq_some_iff.1 h2).1).trans h2,h3.mono (E7 hr)⟩))
       · replace hg:(fun (v:Value) (w:World)=>DApp D W4 (.slice ae j ce) j css pre x.down v w) u w:=hg
         show (fun (v:Value) (w:World)=>DApp D W4 (.slice ae j ce) j css pre x.down v w) u w';dsimp only at hg ⊢;replace hE:exB _ _ i 5=false:=hE;replace hne:5≠i:=hne;unfold dlR at hr;split at hr
         all_goals first
           | exact absurd rfl hne
           | exact absurd (hE.symm.trans (by decide +kernel:exB _ _ _ _=true)) (by decide)
           | (subst hr;exact hg)
           | (fail)
       · exact hg
       · replace hg:(fun (v:Value) (w:World)=>∃(v1:Value) (w1:World),w=w1.setCell ⟨D,5,none⟩ v1/\DApp D W4 (.slice ae j ce) j css pre x.down v1 w1) u w:=hg
         show (fun (v:Value) (w:World)=>∃(v1:Value) (w1:World),w=w1.setCell ⟨D,5,none⟩ v1/\DApp D W4 (.slice ae j ce) j css pre x.down v1 w1) u w';dsimp only at hg ⊢;replace hE:exB _ _ i 7=false:=hE;replace hne:7≠i:=hne;unfold dlR at hr;split at hr
         all_goals first
           | exact absurd rfl hne
           | exact absurd (hE.symm.trans (by decide +kernel:exB _ _ _ _=true)) (by decide)
           | (subst hr;exact hg)
           | (fail)
       · trivial
     · intro jj w6 w7 hF hI hr
       unfold dlR at hr;split at hr
       · exact hI.trans (hr.mono hI.size)
       · exact hI.trans (hr.mono hI.size)
       · exact absurd hF (by decide)
       · exact absurd hF (by decide)
       · subst hr;exact hI
     · refine ⟨?_,?_,?_,?_,?_,?_,?_,?_,trivial⟩
       · refine VC.plain rfl fun a wx hf=>?_
         have s3:=hf.old 3 (by first | rfl | kernel_rfl);have q3:=Am s3;exact gives_value (by simp [go_sem,q3]) ⟨hf.c,rfl,rfl⟩
       · refine VC.plain rfl fun a wx hf=>?_
         obtain ⟨v80,g80,s80⟩:=hf.got 0 (by kernel_rfl) (by intro j hj;simp [eats] at hj) rfl rfl;replace s80:=s80.trans (show v80=.pointer (some ⟨D,5,none⟩) from g80);clear g80;have q80:=Am s80;have hI:=hf.start (by kernel_rfl);exact gives_value (by simp [go_sem,q80,hI.cell (p:=⟨D,5,none⟩) hDl,hc5]) ⟨trivial,rfl,rfl⟩
       · refine VC.plain rfl fun a wx hf=>?_
         have s7:=hf.old 7 (by first | rfl | kernel_rfl);have q7:=Am s7;have hI:=hf.start (by kernel_rfl);exact Cg rfl s7 (Af hI hr6) Tryz.underlying26 rfl Ae ⟨trivial,rfl,rfl⟩
       · refine VC.plain rfl fun a wx hf=>?_
         obtain ⟨v82,g82,s82⟩:=hf.got 2 (by kernel_rfl) (by intro j hj;simp [eats] at hj) rfl rfl;replace s82:=s82.trans (show v82=.agg #[.int .i64 x.kind,.string x.text,.int .i64 x.int,.float .f64 x.real,.bool x.flag,.slice ax x.list.length cx] from g82);clear g82;have q82:=Am s82;have hI:=hf.start (by kernel_rfl);exact Gi (f:=32) (args:=#[.agg #[.int .i64 x.kind,.string x.text,.int .i64 x.int,.float .f64 x.real,.bool x.flag,.slice ax x.list.length cx]]) (by simp [go_sem,q82]) ((hih wx hI).mono fun e w' ⟨a1,c1,he,h1,h2⟩=>⟨_,he,trivial,h2,a1,c1,rfl,h1.mono (newer_mono hI.size)⟩)
       · refine VC.plain rfl fun a wx hf=>?_
         obtain ⟨v83,g83,s83⟩:=hf.got 3 (by kernel_rfl) (by intro j hj;simp [eats] at hj;omega) rfl rfl;have q83:=Am s83;replace g83:(fun (v:Value) (w:World)=>∃(a1:Option Addr) (c1:Nat),v=.agg #[.int .i64 x.down.kind,.string x.down.text,.int .i64 x.down.int,.float .f64 x.down.real,.bool x.down.flag,.slice a1 x.down.list.length c1]/\RV (A8 W4.heap.size w) (Ai x.down.kind x.down.text x.down.int x.down.real x.down.flag a1 x.down.list.length c1) x.down) v83 wx:=g83;dsimp only at g83;obtain ⟨a1,c1,rfl,h1⟩:=g83;have hal:=(Below.refl wx.heap.size wx).alloc (Nat.le_refl _) (.cells #[.int .i64 x.down.kind,.string x.down.text,.int .i64 x.down.int,.float .f64 x.down.real,.bool x.down.flag,.slice a1 x.down.list.length c1] 26)
         exact gives_value (u:=.slice (some ⟨wx.heap.size,0,none⟩) 1 1) (w' := wx.alloc (.cells #[.int .i64 x.down.kind,.string x.down.text,.int .i64 x.down.int,.float .f64 x.down.real,.bool x.down.flag,.slice a1 x.down.list.length c1] 26)) (by simp [go_sem,q83,Tryz.underlying24]) ⟨trivial,(Below.refl _ _).alloc (Nat.le_refl _) _,wx.heap.size,a1,c1,rfl,(MapKept.heap_alloc wx _).1,h1.mono (E7 hal)⟩
       · refine VC.plain rfl fun a wx hf=>?_
         obtain ⟨v81,g81,s81⟩:=hf.got 1 (by kernel_rfl) (by intro j hj;simp [eats] at hj) rfl rfl;replace s81:=s81.trans (show v81=.slice ae j ce from g81);clear g81;have q81:=Am s81;obtain ⟨v84,g84,s84⟩:=hf.got 4 (by kernel_rfl) (by intro j hj;simp [eats] at hj;omega) rfl rfl;have q84:=Am s84;replace g84:(fun (v:Value) (w:World)=>∃(b:Nat) (a1:Option Addr) (c1:Nat),v=.slice (some ⟨b,0,none⟩) 1 1/\w.heap[b]?=some (.cells #[.int .i64 x.down.kind,.string x.down.text,.int .i64 x.down.int,.float .f64 x.down.real,.bool x.down.flag,.slice a1 x.down.list.length c1] 26 (0,0))/\RV (A8 W4.heap.size w) (Ai x.down.kind x.down.text x.down.int x.down.real x.down.flag a1 x.down.list.length c1) x.down) v84 wx:=g84;dsimp only at g84;have hI:=hf.start (by kernel_rfl);obtain ⟨b,a1,c1,rfl,hbk,hrv⟩:=g84;have hIs:=hI.size
         have hown1:wx.ownsRow (D+1) 26 6 (.slice ae j ce) j css.flatten:=owns_fr hrow (Fr.of_below hI) (fun k hk hle=>by have:=(At hrow k hk).2;omega);have hvs1:=hrvs.mono (nf_below (B:=D+1) (own:=(Value.slice ae j ce).ownBlock) hI);have hx1:=hrv.mono (nf_of_newer (B:=D+1) (own:=(Value.slice ae j ce).ownBlock) hDs (fun k hk=>(At hrow k hk).2));refine gives_append rfl eVal s81 hown1 s84 (reads_blockD hbk rfl) (fun h=>by cases h) (by simp [Value.oneCell']) hjn9 (by omega) (fun v' w' h1 h2 h3=>?_);refine ⟨trivial,trivial,a1,c1,Fr.trans ((Fr.of_below hI).mono (fun i hi hle=>absurd hle (by omega))) h2,?_,(hvs1.snoc hx1).mono (nf_append h2 h3)⟩;simpa [Ai] using h1
       · refine VC.plain rfl fun a wx hf=>?_
         have s3:=hf.old 3 (by first | rfl | kernel_rfl);have q3:=Am s3;exact gives_value (by simp [go_sem,q3]) ⟨hf.c,rfl,rfl⟩
       · refine VC.plain rfl fun a wx hf=>?_
         obtain ⟨v86,g86,s86⟩:=hf.got 6 (by kernel_rfl) (by intro j hj;simp [eats] at hj) rfl rfl;replace s86:=s86.trans (show v86=.pointer (some ⟨D,5,none⟩) from g86);clear g86;have q86:=Am s86;obtain ⟨v85,g85,s85⟩:=hf.got 5 (by kernel_rfl) (by intro j hj;simp [eats] at hj;omega) rfl rfl;have q85:=Am s85;replace g85:(fun (v:Value) (w:World)=>DApp D W4 (.slice ae j ce) j css pre x.down v w) v85 wx:=g85;dsimp only at g85;obtain ⟨a1,c1,h1,h2,h3⟩:=g85;obtain ⟨a31,c31,rfl⟩:=(Reads.of_owns h2).shape;exact gives_skip (w' := wx.setCell ⟨D,5,none⟩ _) (by simp [go_sem,q85,q86,h1.cell (p:=⟨D,5,none⟩) hc5 hDo,(hblk.fr h1 hDo).frz 5 none]) ⟨trivial,trivial,_,wx,rfl,a1,c1,h1,h2,h3⟩
     · intro vs w5 _ hG
       obtain ⟨v1,w6,e,a1,c1,g1,g2,g3⟩:=hG 7 (by decide) (by decide);clear hG;subst e;obtain ⟨a8,c8,rfl⟩:=(Reads.of_owns g2).shape;obtain ⟨W9,hW9⟩:∃W9,W9=w6.setCell ⟨D,5,none⟩ (.slice a8 (j+1) c8):=⟨_,rfl⟩;have hfD:Fr (fun k=>k=D) w6 W9:=by rw [hW9];exact Fr.setCell (S:=fun k=>k=D) (Fr.refl _ _) (fun _=>rfl) _
       have hk0:∀q u,q≠5->W4.cell? ⟨D,q,none⟩=some u->W9.cell? ⟨D,q,none⟩=some u:=fun q u hq hu=>by
         rw [hW9,Ab (fun e=>hq (congrArg Addr.off e).symm)];exact g1.cell hu hDo
       have hRn:W9.rangeAt D 0 [.int .i64 5,.string ⟨#[]⟩,.int .i64 0,.float .f64 0,.bool false,.slice a8 (j+1) c8]:=
         range6 (hk0 _ _ (by omega) (by simpa using hrD 0 _ rfl)) (hk0 _ _ (by omega) (by simpa using hrD 1 _ rfl)) (hk0 _ _ (by omega) (by simpa using hrD 2 _ rfl)) (hk0 _ _ (by omega) (by simpa using hrD 3 _ rfl)) (hk0 _ _ (by omega) (by simpa using hrD 4 _ rfl)) (by rw [hW9];exact Ap (g1.cell hc5 hDo))
       have hBn:Blk W9 D:=by rw [hW9];exact (hblk.fr g1 hDo).setCell _ _
       have hown9:W9.ownsRow (D+1) 26 6 (.slice a8 (j+1) c8) (j+1) (css++[Ai x.down.kind x.down.text x.down.int x.down.real x.down.flag a1 x.down.list.length c1]).flatten:=by
         rw [List.flatten_append];simpa using owns_fr g2 hfD (fun k hk e=>by have:=(At g2 k hk).1;omega)
       have hvs9:=g3.mono (fun ad u h=>let ⟨h1,h2,h3⟩:=nf_cell h;nf_mk (w:=W9) (hfD.cell h1 (fun e=>by omega)) h2 h3);have hs6:=g1.size;have hs9:=hfD.size;have hbn:Below D W2 W9:=hbel4.trans ((g1.below (by omega) (fun k hk e=>by have:=(At hrow k e).1;omega)).trans (hfD.below (by omega) (fun k hk e=>by omega)));have hz9:D+1<=W9.heap.size:=by omega
       have e9:(v.list.take (j+1)).map V.down=pre++[x.down]:=by rw [hts.out,List.map_append,hpre];rfl
       rw [<-e9] at hvs9;rw [<-hW9];replace hW9:=Hd hW9;replace hRn:=Hd hRn;replace hBn:=Hd hBn;replace hown9:=Hd hown9;replace hvs9:=Hd hvs9;replace hbn:=Hd hbn;clear hk0 g1 g2 g3 hfD hc5 hDo hrow hrvs hblk hih hrD hr6 hs6 hs9 hbel4 hlv4 hbw d0 d1 d2 d3 d4 d5;simp only [putFrom,Act.put,List.setIfInBounds_toArray,List.set_cons_zero,List.set_cons_succ];go_wp2_with fail
       go_roundw
       case rel=>exact ⟨j+1,_,_,by omega,by go_num,hown9.out,hvs9.out,hRn.out,hBn.out,hbn.out,hz9⟩
       case measure=>simp [intOf];omega
   · obtain rfl:j=n:=by omega
     have hjl:(v.list.take j).map V.down=v.list.map V.down:=by rw [List.take_of_length_le (by rw [<-en.out];exact Nat.le_refl _)]
     rw [hjl] at hrs;obtain ⟨a3,c3,rfl⟩:=(Reads.of_owns hown).shape;have hbel2:Below W2.heap.size W2 wr:=by rw [hD.out];exact hbel
     have htC:=Aq (n:=6) (Af hbel2 hrC.out) (hfC.out.of_block (hbel.block _ hcl)) rfl;have hfin:Fr (fun k=>k=w.heap.size+1) wr (wr.setCells (w.heap.size+1) 0 [.int .i64 5,.string ⟨#[]⟩,.int .i64 0,.float .f64 0,.bool false,.slice a3 j c3]):=Fr.setCells (S:=fun k=>k=w.heap.size+1) (fun _=>rfl) _ _ _ (Fr.refl _ wr);have hrR:(wr.setCells (w.heap.size+1) 0 [.int .i64 5,.string ⟨#[]⟩,.int .i64 0,.float .f64 0,.bool false,.slice a3 j c3]).rangeAt (w.heap.size+1) 0 [.int .i64 5,.string ⟨#[]⟩,.int .i64 0,.float .f64 0,.bool false,.slice a3 j c3]:=World.rangeAt_setCells_same _ _ _ _ htC;replace hown:=Hd hown;replace hrs:=Hd hrs;replace hr:=Hd hr;replace htC:=Hd htC;replace hrR:=Hd hrR;replace hfin:=Hd hfin;replace hbel:=Hd hbel;clear hbel2
     go_wp2_with (first
       | (refine wpList_load_mid rfl 26 _ rfl D 0 rfl _ _ hr.out Tryz.underlying26 rfl Ae ?_)
       | (refine wpList_store_mid rfl 26 _ _ rfl (w.heap.size+1) 0 _ rfl rfl htC.out Ae (one6 _ _ _ _ _ _ _ _) ?_))
     refine bodyPost_ret (Ar (v:=.agg #[.int .i64 5,.string ⟨#[]⟩,.int .i64 0,.float .f64 0,.bool false,.slice a3 j c3]) rfl rfl (run_loadVar_mid (P:=Tryz.prog) _ _ 0 26 _ _ hrR.out Tryz.underlying26 rfl Ae)) rfl ?_;have hll:(v.list.map V.down).length=j:=by rw [List.length_map,<-en.out]
     have hrv:=RV.of_row (v:=.mk 5 ⟨#[]⟩ 0 0 false (v.list.map V.down)) hll.symm (owns_fr hown.out hfin.out (fun q hq e=>by have:=(At hown.out q hq).1;omega)) ((hrs.out.mono (fun ad u h=>let ⟨h1,h2,h3⟩:=nf_cell h;nf_mk (hfin.out.cell h1 (fun e=>by omega)) h2 h3)).mono nf_newer);refine ⟨a3,c3,?_,?_,(hb2.out.trans (hbel.out.mono (by omega))).trans (hfin.out.below (by have:=hbel.out.size;omega) (fun q hq e=>by omega))⟩
     · rw [hdn.out]
       show _=Ending.returned (.agg #[.int .i64 5,.string ⟨#[]⟩,.int .i64 0,.float .f64 0,.bool false,.slice a3 (v.list.map V.down).length c3]);rw [hll]
     · rw [hdn.out]
       show RV _ (Ai 5 ⟨#[]⟩ 0 0 false a3 (v.list.map V.down).length c3) _;rw [hll];exact hrv.mono (newer_mono (by omega))
theorem rdown_any (v:V):∀(k:Int) (t:ByteArray) (i:Int) (r:Nat) (f:Bool) (a:Option Addr) (n cap:Nat) (d:Int) (w:World),RDownH v k t i r f a n cap d w ->
   Calls Tryz.prog 32 #[.agg #[.int .i64 k,.string t,.int .i64 i,.float .f64 r,.bool f,.slice a n cap]] w (Gn v w):=by
 induction v using V.ind with
 | h v ih=>
 intro k t i r f a n cap d w hp
 have hk:1<=k/\k<=14:=by
   have hfe:=hp.d.fine;rw [V.fine_eq,Bool.and_eq_true,Bool.and_eq_true] at hfe;rw [hp.d.val.len.1];exact (Du hfe.1.1).kind
 rcases (by omega:k=1\/k=2\/k=9\/k=3\/k=7\/k=8\/k=6\/k=4\/k=10\/k=11\/k=12\/k=5\/k=13\/k=14) with rfl | rfl | rfl | rfl | rfl | rfl | rfl | rfl | rfl | rfl | rfl | rfl | rfl | rfl
 · exact E1 (by omega) hp
 · exact E1 (by omega) hp
 · exact Ev (by omega) hp
 · exact E1 (by omega) hp
 · exact Ev (by omega) hp
 · exact Ev (by omega) hp
 · exact E1 (by omega) hp
 · exact E1 (by omega) hp
 · exact Ev (by omega) hp
 · exact Ev (by omega) hp
 · exact Ga (by omega) ih hp
 · exact Ga (by omega) ih hp
 · exact Ga (by omega) ih hp
 · exact Ga (by omega) ih hp
end R2
end Go.Proofs.YtagkgfniihiinaaGreatDoor
