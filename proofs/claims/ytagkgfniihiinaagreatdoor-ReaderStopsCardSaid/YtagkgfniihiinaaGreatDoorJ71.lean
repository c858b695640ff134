/- The reader: lists. -/
import Derived.Test.YtagkgfniihiinaaGreatDoorJ80
import Derived.Test.YtagkgfniihiinaaGreatDoorJ72
set_option linter.all false
set_option maxHeartbeats 6400000
set_option maxRecDepth 100000
namespace Go.Proofs.YtagkgfniihiinaaGreatDoor
open Go.RowKit
def VAt (rp:Rp) (w0:World) (g b o n cap:Nat) (s:ByteArray) (at2:Nat) (out:Out (V × Nat × Nat)) (wr:World) (v:Value) (w:World):Prop:=
 ∃(x:V) (u m:Nat) (a:Option Addr) (ca:Nat),out=.got (x,u,m)/\v=.agg #[.int .i64 x.kind,.string x.text,.int .i64 x.int,.float .f64 x.real,.bool x.flag,.slice a x.list.length ca] /\
   RV (Bh wr.heap.size w) (Ao x.kind x.text x.int x.real x.flag a x.list.length ca) x/\Fr (fun k=>k=g) wr w/\RS rp w0 w g b o n cap s (at2+u) m
def VSl (rp:Rp) (w0:World) (g b o n cap:Nat) (s:ByteArray) (at2:Nat) (out:Out (V × Nat × Nat)) (wr:World) (v:Value) (w:World):Prop:=
 ∃(x:V) (u m:Nat) (a:Option Addr) (ca bl:Nat),out=.got (x,u,m)/\v=.slice (some ⟨bl,0,none⟩) 1 1/\w.heap[bl]?=some (.cells #[.int .i64 x.kind,.string x.text,.int .i64 x.int,.float .f64 x.real,.bool x.flag,.slice a x.list.length ca] 26 (0,0)) /\
   RV (Bh wr.heap.size w) (Ao x.kind x.text x.int x.real x.flag a x.list.length ca) x/\Fr (fun k=>k=g) wr w/\RS rp w0 w g b o n cap s (at2+u) m
def VAp (rp:Rp) (w0:World) (g b o n cap:Nat) (s:ByteArray) (at2:Nat) (out:Out (V × Nat × Nat)) (wr:World) (B:Nat) (lv:Value) (css:List (List Value)) (lj:List V) (v:Value) (w:World):Prop:=
 ∃(x:V) (u m:Nat) (cs:List Value),out=.got (x,u,m)/\w.ownsRow B 26 6 v (lj.length+1) (css++[cs]).flatten/\RVs (nf B v.ownBlock w) (css++[cs]) (lj++[x]) /\
   Fr (fun k=>k=g\/lv.ownBlock=some k) wr w/\RS rp w0 w g b o n cap s (at2+u) m
def lqR (g:Nat) (i:Nat) (w w' : World):Prop:=match i with
 | 5=>Fr (fun k=>k=g) w w'
 | 6=>Below w.heap.size w w'
 | 7=>True
 | 9=>True
 | _=>w' = w
def LI (g:Nat) (wr:World) (q:Bool) (w:World):Prop:=match q with
 | true=>w=wr.drew
 | false=>Fr (fun k=>k=g) wr w
def LF (q:Bool):List Nat:=match q with
 | true=>[5,6,7,9]
 | false=>[7,9]
theorem nf_fr {B g:Nat} {own:Option Nat} {w w' : World} (hf:Fr (fun k=>k=g) w w') (hg:g<B):∀a u,nf B own w a=some u->nf B own w' a=some u:=fun a u h=>by
 obtain ⟨h1,h2,h3⟩:=nf_cell h;exact nf_mk (hf.cell h1 (fun e=>by omega)) h2 h3
theorem RS.fr {rp:Rp} {w0 w w' : World} {g b o n cap at_ many:Nat} {s:ByteArray} (h:RS rp w0 w g b o n cap s at_ many) {S:Nat->Prop} (hf:Fr S w w') (hg:¬S g) (hb:¬S b) (hS:∀i,S i->w0.heap.size<=i):RS rp w0 w' g b o n cap s at_ many:=
 ⟨h.scan.fr hf hg hb,h.env,h.below.trans (hf.below h.below.size (fun i hi e=>by have:=hS i e;omega)),h.base,h.le⟩
theorem reads_blockR {w:World} {b size:Nat} {us:Array Value} {t:TypeId} (h:w.heap[b]?=some (.cells us t (0,0))) (hs:us.size=size):Reads w size (.slice (some ⟨b,0,none⟩) 1 1) 1 us.toList:=
 ⟨_,_,rfl,by simp [hs],fun j u hj=>⟨b,0,rfl,by simp [World.cell?,h];simpa using hj⟩⟩
theorem ls_next {rp:Rp} {w0 w wr w6:World} {g b o n cap:Nat} {s:ByteArray} {kk:Int} {at_ uj mj:Nat} {a3 a31:Option Addr} {c3 c31:Nat} {css:List (List Value)} {lj:List V} {f:Nat->List UInt8->Out (V × Nat × Nat)} {x:V} {u1 m:Nat} {cs:List Value}
  (hls:LSr rp w0 w wr g b o n cap s kk at_ uj mj (.slice a3 lj.length c3) css lj) (hfm:Hid (∀(m:Nat) (L:List UInt8) (v:V) (u m' : Nat),m<=1000->f m L=.got (v,u,m')->m' <= 1000)) (hg5:¬w.heap.size+1=g) (hgw:g<w.heap.size) (hbw:b<w.heap.size)
  (g1:f mj (s.data.toList.drop (at_+uj))=.got (x,u1,m)) (g2:w6.ownsRow (w.heap.size+2) 26 6 (.slice a31 (lj.length+1) c31) (lj.length+1) (css++[cs]).flatten) (g3:RVs (nf (w.heap.size+2) (Value.slice a31 (lj.length+1) c31).ownBlock w6) (css++[cs]) (lj++[x]))
  (g4:Fr (fun k=>k=g\/(Value.slice a3 lj.length c3).ownBlock=some k) wr w6) (g5:RS rp w0 w6 g b o n cap s (at_+uj+u1) m) :
  LSr rp w0 w (w6.setCell ⟨w.heap.size+1,5,none⟩ (.slice a31 (lj.length+1) c31)) g b o n cap s kk at_ (uj+u1) m (.slice a31 (lj.length+1) c31) (css++[cs]) (lj++[x]):=by
 have l:(lj++[x]).length=lj.length+1:=by simp
 have a:Fr (fun k=>k=w.heap.size+1) w6 (w6.setCell ⟨w.heap.size+1,5,none⟩ (.slice a31 (lj.length+1) c31)):=Fr.setCell (S:=fun k=>k=w.heap.size+1) (Fr.refl _ _) (fun _=>rfl) _;have c:∀k,(Value.slice a3 lj.length c3).ownBlock=some k->w.heap.size+2<=k:=fun k hk=>(Au hls.own k hk).1;have d:¬(w.heap.size+1=g\/(Value.slice a3 lj.length c3).ownBlock=some (w.heap.size+1)):=fun e=>by
  rcases e with e | e
  ·omega
  ·have:=c _ e;omega
 have h:¬(w.heap.size=g\/(Value.slice a3 lj.length c3).ownBlock=some w.heap.size):=fun e=>by
  rcases e with e | e
  ·omega
  ·have:=c _ e;omega
 have r:=hls.blk1.fr g4 d;have k1:∀j u,wr.cell? ⟨w.heap.size+1,j,none⟩=some u->j≠5->(w6.setCell ⟨w.heap.size+1,5,none⟩ (.slice a31 (lj.length+1) c31)).cell? ⟨w.heap.size+1,j,none⟩=some u:=fun j u hu hj=>by
  rw [Ac (fun e=>hj (congrArg Addr.off e).symm)];exact g4.cell hu d
 refine ⟨?_,hfm.out mj _ x u1 m hls.many g1,?_,g3.mono (nf_fr a (by omega)),?_,?_,(hls.blk.fr g4 h).setCell _ _,r.setCell _ _,?_,?_⟩
 ·rw [<-Nat.add_assoc]
  exact g5.fr a (fun e=>hg5 e.symm) (fun e=>by omega) (fun i e=>by have:=hls.rs.base;omega)
 ·rw [l]
  exact owns_fr g2 a (fun k hk e=>by have:=(Au g2 k hk).1;omega)
 ·refine range6 (k1 _ _ (by simpa using hls.full 0 _ rfl) (by omega)) (k1 _ _ (by simpa using hls.full 1 _ rfl) (by omega)) (k1 _ _ (by simpa using hls.full 2 _ rfl) (by omega)) (k1 _ _ (by simpa using hls.full 3 _ rfl) (by omega)) (k1 _ _ (by simpa using hls.full 4 _ rfl) (by omega)) ?_
  exact Ak (g4.cell (p:=⟨w.heap.size+1,5,none⟩) (hls.full 5 _ rfl) d)
 ·intro q u hq
  exact a.cell (g4.cell (hls.zero q u hq) h) (by show ¬w.heap.size=w.heap.size+1;omega)
 ·refine hls.fr.trans_new (Fr.trans (g4.mono (fun _ _ e=>Or.inl e)) (a.mono (fun _ _ e=>Or.inr e)):Fr (fun k=>(k=g\/(Value.slice a3 lj.length c3).ownBlock=some k)\/k=w.heap.size+1) wr _) (fun i hi e=>?_)
  rcases e with (e | e) | e
  ·exact e
  ·have:=c _ e;omega
  ·omega
 ·have:=a.size;have:=g4.size;have:=hls.size;omega
def LZ (y0:World) (g:Nat) (f:Nat->List UInt8->Out (V × Nat × Nat)) (res:Out (List V × Nat × Nat)) (mj:Nat) (L:List UInt8) (c:List PanicEntry) (w:World):Prop:=
 ∃q,f mj L=.stop q/\Ending.panicked c=C1 q/\Fr (fun k=>k=g) y0 w
def ListQ (rp:Rp) (w0:World) (g b o n cap:Nat) (s:ByteArray) (kk:Int) (at_:Nat) (res:Out (List V × Nat × Nat)) (w:World) (e:Ending) (w' : World):Prop:=
 match res with
 | .stop q=>e=C1 q/\Fr (fun k=>k=g) w w'
 | .got (l,u,m)=>∃(a:Option Addr) (ca:Nat),e=.returned (.agg #[.int .i64 kk,.string ⟨#[]⟩,.int .i64 0,.float .f64 0,.bool false,.slice a l.length ca]) /\
   RV (Bh w.heap.size w') (Ao kk ⟨#[]⟩ 0 0 false a l.length ca) (.mk kk ⟨#[]⟩ 0 0 false l)/\Fr (fun k=>k=g) w w' /\ RS rp w0 w' g b o n cap s (at_+u) m
theorem Gl {B x:Nat} {w w' : World} (hf:Fr (fun k=>k=x) w w') (hx:x<B:=by omega):∀a u,Bh B w a=some u->Bh x w' a=some u:=fun a u h=>by
 obtain ⟨h1,h2⟩:=Dw h;unfold Bh;rw [if_neg (by omega)];exact hf.cell h1 (fun e=>by omega)
namespace R2.R3
theorem list_any {rp:Rp} {w0 y0:World} {g b o n cap at_ many len:Nat} {s:ByteArray} {d kk:Int} {need:Nat->List UInt8->Prop} {f:Nat->List UInt8->Out (V × Nat × Nat)} (h:RS rp w0 y0 g b o n cap s at_ many) (hbw0:b<y0.heap.size) (hm:many+len<=1000) (hd0:0<=d) (hd:d<8) (hk:¬(kk=14/\(len=0\/0<d)))
  (hval:∀(W:World) (at2 m2:Nat),RS rp w0 W g b o n cap s at2 m2->m2<=1000->need m2 (s.data.toList.drop at2)->Calls Tryz.prog 46 #[.pointer (some ⟨g,0,none⟩),.int .i64 (d+1)] W (ValQ rp w0 g b o n cap s at2 (f m2 (s.data.toList.drop at2)) W))
  (hfm:∀(m:Nat) (L:List UInt8) (v:V) (u m' : Nat),m<=1000->f m L=.got (v,u,m')->m' <= 1000)
  (hnd:needN need f len (many+len) (s.data.toList.drop at_)) :
  Calls Tryz.prog 70 #[.pointer (some ⟨g,0,none⟩),.int .i64 kk,.int .i64 (len:Int),.int .i64 d] y0 (ListQ rp w0 g b o n cap s kk at_ (Bg f len (many+len) (s.data.toList.drop at_)) y0):=by
 obtain ⟨W1,hW1⟩:∃W1,W1=(y0.alloc (.cells #[.int .i64 0,.string ⟨#[]⟩,.int .i64 0,.float .f64 0,.bool false,.slice none 0 0] 26)).alloc (.cells #[.int .i64 kk,.string ⟨#[]⟩,.int .i64 0,.float .f64 0,.bool false,.slice none 0 0] 26):=⟨_,rfl⟩;have hT:=Two.start y0 kk ⟨#[]⟩ 0 0 false;rw [<-hW1] at hT;have bu:W1.heap.size=y0.heap.size+2:=by rw [hW1];simp
 have h1:=h.grow hT.below;have c2:=h1.scan.c2;have fz:=h1.scan.blk.frz 2 none;have bv:g<y0.heap.size:=h.scan.blk.lt;have y1:¬(1000:Int)<(many:Int)+(len:Int):=by omega
 have y2:¬8<=d:=by omega
 have ab:=Links.start (f:=f) (D:=s.data.toList) (at_:=at_) (n:=len) (m:=many+len) hnd;clear hnd;obtain ⟨res,hres⟩:∃res,res=Bg f len (many+len) (s.data.toList.drop at_):=⟨_,rfl⟩;rw [<-hres] at ab ⊢;have ap:Fr (fun k=>k=g) y0 (W1.setCell ⟨g,2,none⟩ (.int .i64 ((many:Int)+(len:Int)))):=Fr.setCell (S:=fun k=>k=g) (Am hT.below) (fun _=>rfl) _;have ar:LSr rp w0 y0 (W1.setCell ⟨g,2,none⟩ (.int .i64 ((many:Int)+(len:Int)))) g b o n cap s kk at_ 0 (many+len) (.slice none 0 0) [] []:=by
  have ae:Fr (fun k=>k=g) W1 (W1.setCell ⟨g,2,none⟩ (.int .i64 ((many:Int)+(len:Int)))):=Fr.setCell (S:=fun k=>k=g) (Fr.refl _ _) (fun _=>rfl) _;refine ⟨?_,hm,World.ownsRow_nil _ _ _ _,RVs.nil _,fun q x hq=>ae.cell (hT.full q x hq) (by show ¬y0.heap.size+1=g;omega),fun q x hq=>ae.cell (hT.zero q x hq) (by show ¬y0.heap.size=g;omega),hT.blk.fr ae (by omega),hT.blk1.fr ae (by omega),ap,?_⟩
  ·have:=h1.scan.count (many+len)
   rw [show ((many+len:Nat):Int)=(many:Int)+(len:Int) by omega] at this;exact h1.next ae (by simpa using this) (by simpa using h1.le)
  ·have:=ae.size;omega
 generalize hW2:W1.setCell ⟨g,2,none⟩ (.int .i64 ((many:Int)+(len:Int)))=W2 at ar ap;replace hW2:=Hd hW2;replace hW1:=Hd hW1;replace hT:=Hd hT;replace h1:=Hd h1;replace h:=Hd h;replace ab:=Hd ab;replace hres:=Hd hres;replace ar:=Hd ar;replace hval:=Hd hval;replace hfm:=Hd hfm;replace ap:=Hd ap;clear bu;have a2:(kk == 14)=false\/(kk == 14)=true/\((len:Int) == 0)=false/\¬0<d:=by
  by_cases h14:kk=14
  ·right
   have:¬(len=0\/0<d):=fun hh=>hk ⟨h14,hh⟩;exact ⟨by simpa using h14,by simp;omega,by omega⟩
  ·left;simpa using h14
 replace hk:=Hd hk;have hcl:∀(x y z:Bool),((x=false)\/(y=false/\z=false))->(x && (y || z))=false:=by decide
 go_enter Tryz.func70,Tryz.ntmps70
 go_upto_region 2 with fail
 rw [<-hW1.out];rcases a2 with a2 | ⟨a2,hk4,hk5⟩
 all_goals
  go_wp2_with fail
  rw [hW2.out]
  go_loopw [43] (fun i wr=>∃(j uj mj:Nat) (lj:List V) (lv:Value) (ac:List (List Value)),j<=len/\i=.int .i64 j/\lj.length=j/\LSr rp w0 y0 wr g b o n cap s kk at_ uj mj lv ac lj/\Links need f res s.data.toList at_ (len - j) uj mj lj) (fun i _=>len - (intOf i).toNat)
  case atStart=>exact ⟨0,0,many+len,[],_,[],Nat.zero_le _,rfl,rfl,ar.out,ab.out⟩
  case round=>
   obtain ⟨j,uj,mj,lj,lv,ac,hj,rfl,bj,t,ag⟩:=hrel;have bc:g<y0.heap.size:=bv;by_cases hlt:j<len
   ·obtain ⟨a3,c3,rfl⟩:=(Reads.of_owns t.own).shape
    obtain ⟨lft,hlf⟩:∃lft,len - j=lft+1:=⟨len - j - 1,by omega⟩;rw [hlf] at ag;have bd:(j:Int)<(len:Int):=by omega
    have an:IntKind.i64.wrap (d+1)=d+1:=IntWalk.i64_in _ (by omega);have hw2:IntKind.i64.wrap ((j:Int)+1)=((j+1:Nat):Int):=by rw [IntWalk.i64_in _ (by omega)];rfl
    have bw:=t.many;have be:¬y0.heap.size+1=g:=by omega
    replace t:=Hd t;replace ag:=Hd ag;go_upto_region 7 with fail
    refine wp_region_rely (l:=[_,_,_,_,_,_,_,_,_,_]) (LZ y0 g f res mj (s.data.toList.drop (at_+uj))) ?_ (fun _=>True) (LI g wr) (lqR g) (fun ax=>([fun v _=>v=.pointer (some ⟨y0.heap.size+1,5,none⟩),fun v _=>v=.slice a3 lj.length c3,fun v _=>v=.pointer (some ⟨g,0,none⟩),fun v _=>v=.int .i64 d,fun v _=>v=.int .i64 (d+1),fun v w=>VAt rp w0 g b o n cap s (at_+uj) (f mj (s.data.toList.drop (at_+uj))) wr v w,fun v w=>VSl rp w0 g b o n cap s (at_+uj) (f mj (s.data.toList.drop (at_+uj))) wr v w,fun v w=>VAp rp w0 g b o n cap s (at_+uj) (f mj (s.data.toList.drop (at_+uj))) wr (y0.heap.size+2) (.slice a3 lj.length c3) ac lj v w,fun v _=>v=.pointer (some ⟨y0.heap.size+1,5,none⟩),fun v w=>∃(v1:Value) (w1:World),w=w1.setCell ⟨y0.heap.size+1,5,none⟩ v1/\VAp rp w0 g b o n cap s (at_+uj) (f mj (s.data.toList.drop (at_+uj))) wr (y0.heap.size+2) (.slice a3 lj.length c3) ac lj v1 w1]:List (Value->World->Prop)).getD ax (fun _ _=>True)) (eats [(6,5),(7,6),(9,7)]) (fun q=>isIn (LF q)) (by kernel_rfl) (by kernel_rfl) (by kernel_rfl) trivial ?_ ?_ ?_ ?_ ?_
    ·intro c aq x1 hd hz
     obtain ⟨q,h1,h2,h3⟩:=hz;show aq.defers=[]/\ListQ rp w0 g b o n cap s kk at_ res y0 (.panicked c) x1;refine ⟨hd,?_⟩;rw [ag.out.stop h1];exact ⟨h2,h3⟩
    ·intro q
     cases q
     ·exact (Fr.refl _ _).drew
     ·exact rfl
    ·intro i ax u w w' aa hE hg hr
     rcases ax with _ | _ | _ | _ | _ | _ | _ | _ | _ | _ | ax
     ·exact hg
     ·exact hg
     ·exact hg
     ·exact hg
     ·exact hg
     ·replace hg:(fun (v:Value) (w:World)=>VAt rp w0 g b o n cap s (at_+uj) (f mj (s.data.toList.drop (at_+uj))) wr v w) u w:=hg
      show (fun (v:Value) (w:World)=>VAt rp w0 g b o n cap s (at_+uj) (f mj (s.data.toList.drop (at_+uj))) wr v w) u w';dsimp only at hg ⊢;replace hE:exB _ _ i 5=false:=hE;replace aa:5≠i:=aa;unfold lqR at hr;split at hr
      all_goals first
       | exact absurd rfl aa
       | exact absurd (hE.symm.trans (by decide +kernel:exB _ _ _ _=true)) (by decide)
       | (subst hr;exact hg)
       | (fail)
     ·replace hg:(fun (v:Value) (w:World)=>VSl rp w0 g b o n cap s (at_+uj) (f mj (s.data.toList.drop (at_+uj))) wr v w) u w:=hg
      show (fun (v:Value) (w:World)=>VSl rp w0 g b o n cap s (at_+uj) (f mj (s.data.toList.drop (at_+uj))) wr v w) u w';dsimp only at hg ⊢;replace hE:exB _ _ i 6=false:=hE;replace aa:6≠i:=aa;unfold lqR at hr;split at hr
      all_goals first
       | exact absurd rfl aa
       | exact absurd (hE.symm.trans (by decide +kernel:exB _ _ _ _=true)) (by decide)
       | (subst hr;exact hg)
       | (fail)
     ·replace hg:(fun (v:Value) (w:World)=>VAp rp w0 g b o n cap s (at_+uj) (f mj (s.data.toList.drop (at_+uj))) wr (y0.heap.size+2) (.slice a3 lj.length c3) ac lj v w) u w:=hg
      show (fun (v:Value) (w:World)=>VAp rp w0 g b o n cap s (at_+uj) (f mj (s.data.toList.drop (at_+uj))) wr (y0.heap.size+2) (.slice a3 lj.length c3) ac lj v w) u w';dsimp only at hg ⊢;replace hE:exB _ _ i 7=false:=hE;replace aa:7≠i:=aa;unfold lqR at hr;split at hr
      all_goals first
       | exact absurd rfl aa
       | exact absurd (hE.symm.trans (by decide +kernel:exB _ _ _ _=true)) (by decide)
       | (subst hr;exact hg)
       | (fail)
     ·exact hg
     ·replace hg:(fun (v:Value) (w:World)=>∃(v1:Value) (w1:World),w=w1.setCell ⟨y0.heap.size+1,5,none⟩ v1/\VAp rp w0 g b o n cap s (at_+uj) (f mj (s.data.toList.drop (at_+uj))) wr (y0.heap.size+2) (.slice a3 lj.length c3) ac lj v1 w1) u w:=hg
      show (fun (v:Value) (w:World)=>∃(v1:Value) (w1:World),w=w1.setCell ⟨y0.heap.size+1,5,none⟩ v1/\VAp rp w0 g b o n cap s (at_+uj) (f mj (s.data.toList.drop (at_+uj))) wr (y0.heap.size+2) (.slice a3 lj.length c3) ac lj v1 w1) u w';dsimp only at hg ⊢;replace hE:exB _ _ i 9=false:=hE;replace aa:9≠i:=aa;unfold lqR at hr;split at hr
      all_goals first
       | exact absurd rfl aa
       | exact absurd (hE.symm.trans (by decide +kernel:exB _ _ _ _=true)) (by decide)
       | (subst hr;exact hg)
       | (fail)
     ·trivial
    ·intro q i x1 x2 hF hI hr
     unfold lqR at hr;split at hr
     ·cases q
      ·exact Fr.trans hI hr
      ·exact absurd hF (by decide)
     ·cases q
      ·exact Fr.trans hI (Am hr)
      ·exact absurd hF (by decide)
     ·cases q<;>exact absurd hF (by decide)
     ·cases q<;>exact absurd hF (by decide)
     ·subst hr;exact hI
    ·refine ⟨?_,?_,?_,?_,?_,?_,?_,?_,?_,?_,trivial⟩
     ·refine VC.plain rfl fun a wx hf=>?_
      have s9:=hf.old 9 (by first | rfl | kernel_rfl);have q9:=Be s9;exact gives_value (by simp [go_sem,q9,an]) ⟨hf.c,rfl,rfl⟩
     ·refine VC.plain rfl fun a wx hf=>?_
      obtain ⟨b7,bk,a7⟩:=hf.got 0 (by kernel_rfl) (by intro j hj;simp [eats] at hj) rfl rfl;replace a7:=a7.trans (show b7=.pointer (some ⟨y0.heap.size+1,5,none⟩) from bk);clear bk;have bx:=Be a7;have hI:=hf.start false (by kernel_rfl);have a4:=Fr.cell (p:=⟨y0.heap.size+1,5,none⟩) hI (t.out.full 5 _ rfl) be;exact gives_value (by simp [go_sem,bx,a4]) ⟨trivial,rfl,rfl⟩
     ·refine VC.plain rfl fun a wx hf=>?_
      have s0:=hf.old 0 (by first | rfl | kernel_rfl);have q0:=Be s0;exact gives_value (by simp [go_sem,q0,an]) ⟨hf.c,rfl,rfl⟩
     ·refine VC.plain rfl fun a wx hf=>?_
      have s3:=hf.old 3 (by first | rfl | kernel_rfl);have q3:=Be s3;exact gives_value (by simp [go_sem,q3,an]) ⟨hf.c,rfl,rfl⟩
     ·refine VC.plain rfl fun a wx hf=>?_
      obtain ⟨b8,bm,a8⟩:=hf.got 3 (by kernel_rfl) (by intro j hj;simp [eats] at hj) rfl rfl;replace a8:=a8.trans (show b8=.int .i64 d from bm);clear bm;have bz:=Be a8;exact gives_value (by simp [go_sem,bz,an]) ⟨hf.c,rfl,rfl⟩
     ·refine VC.plain rfl fun a wx hf=>?_
      obtain ⟨b9,bn,a9⟩:=hf.got 2 (by kernel_rfl) (by intro j hj;simp [eats] at hj) rfl rfl;replace a9:=a9.trans (show b9=.pointer (some ⟨g,0,none⟩) from bn);clear bn;have b0:=Be a9;obtain ⟨ca,bo,ba⟩:=hf.got 4 (by kernel_rfl) (by intro j hj;simp [eats] at hj) rfl rfl;replace ba:=ba.trans (show ca=.int .i64 (d+1) from bo);clear bo;have b1:=Be ba;have hI:=hf.start true (by kernel_rfl);replace hI:wx=wr.drew:=hI;subst hI;refine gives_callZ (f:=46) (args:=#[.pointer (some ⟨g,0,none⟩),.int .i64 (d+1)]) (w' := wr.drew) (by simp [go_sem,b0,b1]) ?_;refine (hval.out wr.drew (at_+uj) mj (t.out.rs.grow ((Below.refl _ _).drew)) bw ag.out.need).mono fun e x1 he=>?_;unfold ValQ at he;cases hfo:f mj (s.data.toList.drop (at_+uj)) with
      | stop q=>
       rw [hfo] at he;obtain ⟨he,ay⟩:=he;have ak:=Fr.trans t.out.fr (Fr.trans ((Fr.refl (fun k=>k=g) wr).drew) ay);exact .inr ⟨_,he,q,hfo,rfl,ak⟩
      | got r=>
       obtain ⟨x,u1,m⟩:=r;rw [hfo] at he;obtain ⟨ai,aj,he,av,ay,ad⟩:=he;exact .inl ⟨_,he,trivial,ay,x,u1,m,ai,aj,rfl,rfl,av,Fr.trans ((Fr.refl (fun k=>k=g) wr).drew) ay,ad⟩
     ·refine VC.plain rfl fun a wx hf=>?_
      obtain ⟨cb,az,cc⟩:=hf.got 5 (by kernel_rfl) (by intro j hj;simp [eats] at hj;omega) rfl rfl;have b2:=Be cc;replace az:(fun (v:Value) (w:World)=>VAt rp w0 g b o n cap s (at_+uj) (f mj (s.data.toList.drop (at_+uj))) wr v w) cb wx:=az;dsimp only at az;obtain ⟨x,u1,m,ai,aj,g1,g2,g3,g4,g5⟩:=az;subst g2;refine gives_value (u:=.slice (some ⟨wx.heap.size,0,none⟩) 1 1) (w' := wx.alloc (.cells #[.int .i64 x.kind,.string x.text,.int .i64 x.int,.float .f64 x.real,.bool x.flag,.slice ai x.list.length aj] 26)) (by simp [go_sem,b2,Tryz.underlying24]) ⟨trivial,(Below.refl _ _).alloc (Nat.le_refl _) _,?_⟩;have a5:=(Below.refl wx.heap.size wx).alloc (Nat.le_refl _) (.cells #[.int .i64 x.kind,.string x.text,.int .i64 x.int,.float .f64 x.real,.bool x.flag,.slice ai x.list.length aj] 26)
      exact ⟨x,u1,m,ai,aj,wx.heap.size,g1,rfl,(MapKept.heap_alloc wx _).1,g3.mono (Gk a5),Fr.trans g4 (Am a5),g5.grow a5⟩
     ·refine VC.plain rfl fun a wx hf=>?_
      obtain ⟨cd,bp,a0⟩:=hf.got 1 (by kernel_rfl) (by intro j hj;simp [eats] at hj) rfl rfl;replace a0:=a0.trans (show cd=.slice a3 lj.length c3 from bp);clear bp;have q46:=Be a0;obtain ⟨ce,a1,bq⟩:=hf.got 6 (by kernel_rfl) (by intro j hj;simp [eats] at hj;omega) rfl rfl;have q51:=Be bq;replace a1:(fun (v:Value) (w:World)=>VSl rp w0 g b o n cap s (at_+uj) (f mj (s.data.toList.drop (at_+uj))) wr v w) ce wx:=a1;dsimp only at a1;obtain ⟨x,u1,m,ai,aj,bl,g1,rfl,g2,g3,g4,g5⟩:=a1;have a6:=owns_fr t.out.own g4 (fun k hk hle=>by have:=(Au t.out.own k hk).1;omega);have bf:RVs (nf (y0.heap.size+2) (Value.slice a3 lj.length c3).ownBlock wx) ac lj:=t.out.vals.mono (nf_fr g4 (by omega))
      have b3:RV (nf (y0.heap.size+2) (Value.slice a3 lj.length c3).ownBlock wx) (Ao x.kind x.text x.int x.real x.flag ai x.list.length aj) x:=g3.mono (nf_of_newer t.out.size (fun k hk=>(Au t.out.own k hk).2));have hll:=bj.symm;refine givesZ_of (Go.Proofs.YtagkgfniihiinaaGreatDoor.gives_append rfl eVal a0 a6 bq (reads_blockR g2 rfl) (fun h=>by cases h) (by simp [Value.oneCell']) (by omega) (by have:=g4.size;have:=t.out.size;omega) (fun v' w' h1 h2 h3=>?_));refine ⟨trivial,trivial,x,u1,m,Ao x.kind x.text x.int x.real x.flag ai x.list.length aj,g1,?_,((bf.snoc b3).mono (nf_append h2 h3)),?_,g5.fr h2 ?_ ?_ ?_⟩
      ·rw [List.flatten_append];simpa [Ao] using h1
      ·exact Fr.trans (g4.mono (fun _ _ h=>Or.inl h)) (h2.mono (fun _ _ h=>Or.inr h))
      ·intro e;have:=(Au t.out.own g e).1;omega
      ·intro e;have:=(Au t.out.own b e).1;omega
      ·intro i e;have:=(Au t.out.own i e).1;have:=g5.base;omega
     ·refine VC.plain rfl fun a wx hf=>?_
      have s9:=hf.old 9 (by first | rfl | kernel_rfl);have q9:=Be s9;exact gives_value (by simp [go_sem,q9,an]) ⟨hf.c,rfl,rfl⟩
     ·refine VC.plain rfl fun a wx hf=>?_
      obtain ⟨cf,br,bb⟩:=hf.got 8 (by kernel_rfl) (by intro j hj;simp [eats] at hj) rfl rfl;replace bb:=bb.trans (show cf=.pointer (some ⟨y0.heap.size+1,5,none⟩) from br);clear br;have b4:=Be bb;obtain ⟨cg,ao,ch⟩:=hf.got 7 (by kernel_rfl) (by intro j hj;simp [eats] at hj;omega) rfl rfl;have b5:=Be ch;replace ao:(fun (v:Value) (w:World)=>VAp rp w0 g b o n cap s (at_+uj) (f mj (s.data.toList.drop (at_+uj))) wr (y0.heap.size+2) (.slice a3 lj.length c3) ac lj v w) cg wx:=ao;dsimp only at ao;have h1:=ao;obtain ⟨x,u1,m,cs,g1,g2,g3,g4,g5⟩:=ao;obtain ⟨bs,bt,rfl⟩:=(Reads.of_owns g2).shape;have aa:¬(y0.heap.size+1=g\/(Value.slice a3 lj.length c3).ownBlock=some (y0.heap.size+1)):=fun e=>by
       rcases e with e | e
       ·omega
       ·have:=(Au t.out.own _ e).1;omega
      have a4:=Fr.cell (p:=⟨y0.heap.size+1,5,none⟩) g4 (t.out.full 5 _ rfl) aa;exact gives_skip (w' := wx.setCell ⟨y0.heap.size+1,5,none⟩ _) (by simp [go_sem,b4,b5,a4,(t.out.blk1.fr g4 aa).frz 5 none]) ⟨trivial,trivial,_,wx,rfl,h1⟩
    ·intro vs w5 _ hG
     obtain ⟨v1,w6,e,hx⟩:=hG 9 (by decide) (by decide);clear hG;subst e;obtain ⟨x,u1,m,cs,g1,g2,g3,g4,g5⟩:=hx;obtain ⟨bs,bt,rfl⟩:=(Reads.of_owns g2).shape;have au:=ls_next t.out hfm be bc hbw0 g1 g2 g3 g4 g5;have al:=ag.out.next g1;rw [show lft=len - (j+1) by omega] at al;obtain ⟨W9,hW9⟩:∃W9,W9=w6.setCell ⟨y0.heap.size+1,5,none⟩ (.slice bs (lj.length+1) bt):=⟨_,rfl⟩;rw [<-hW9] at au ⊢;replace hW9:=Hd hW9;replace au:=Hd au;replace al:=Hd al;clear g1 g2 g3 g4 g5;simp only [A6,Act.put,List.setIfInBounds_toArray,List.set_cons_zero,List.set_cons_succ];go_wp2_with fail
     go_roundw
     case rel=>exact ⟨j+1,uj+u1,m,lj++[x],_,ac++[cs],by omega,by first | rfl | go_num,by simp [bj],au.out,al.out⟩
     case measure=>simp [intOf];omega
   ·have bd:¬(j:Int)<(len:Int):=by omega
    have b6:len - j=0:=by omega
    rw [b6] at ag;have bg:=ag.last;have bh:=Hd bg;obtain ⟨a3,c3,rfl⟩:=(Reads.of_owns t.own).shape;have av:=RV.of_row (v:=.mk kk ⟨#[]⟩ 0 0 false lj) rfl t.own (t.vals.mono nf_newer);have aw:=Af (n:=6) t.zero t.blk rfl;have ah:(wr.setCells y0.heap.size 0 [.int .i64 kk,.string ⟨#[]⟩,.int .i64 0,.float .f64 0,.bool false,.slice a3 lj.length c3]).rangeAt y0.heap.size 0 [.int .i64 kk,.string ⟨#[]⟩,.int .i64 0,.float .f64 0,.bool false,.slice a3 lj.length c3]:=World.rangeAt_setCells_same _ _ _ _ aw;have ak:Fr (fun k=>k=y0.heap.size) wr (wr.setCells y0.heap.size 0 [.int .i64 kk,.string ⟨#[]⟩,.int .i64 0,.float .f64 0,.bool false,.slice a3 lj.length c3]):=Fr.setCells (S:=fun k=>k=y0.heap.size) (fun _=>rfl) _ _ _ (Fr.refl _ _);have am:=Hd (t.fr.trans_new ak (fun i hi e=>by omega));have hbw:b<y0.heap.size:=hbw0;have bi:=Hd (t.full)
    have ad:RS rp w0 (wr.setCells y0.heap.size 0 [.int .i64 kk,.string ⟨#[]⟩,.int .i64 0,.float .f64 0,.bool false,.slice a3 lj.length c3]) g b o n cap s (at_+uj) mj:=⟨t.rs.scan.fr ak (by omega) (by omega),t.rs.env,t.rs.below.trans (ak.below t.rs.below.size (fun i hi e=>by have:=h.out.below.size;omega)),t.rs.base,t.rs.le⟩;have af:=Hd (av.mono (Gl ak));replace aw:=Hd aw;replace ah:=Hd ah;replace ad:=Hd ad;clear ak av t ag bg;go_upto_region 9 with fail
    refine wp_region_lit ?_;refine wpList_load_mid rfl 26 _ rfl (y0.heap.size+1) 0 rfl _ _ bi.out Tryz.underlying26 rfl Ad ?_;refine wpList_store_mid rfl 26 _ _ rfl y0.heap.size 0 _ rfl rfl aw.out Ad (one6 _ _ _ _ _ _ _ _) ?_;simp only [Act.put,List.setIfInBounds_toArray,List.set_cons_zero,List.set_cons_succ,wpList];generalize hW9:wr.setCells y0.heap.size 0 #[Value.int .i64 kk,.string ⟨#[]⟩,.int .i64 0,.float .f64 0,.bool false,.slice a3 lj.length c3].toList=W9;replace ah:=ah.out;replace am:=am.out;replace ad:=ad.out;replace af:=af.out;rw [show wr.setCells y0.heap.size 0 [Value.int .i64 kk,.string ⟨#[]⟩,.int .i64 0,.float .f64 0,.bool false,.slice a3 lj.length c3]=W9 from hW9] at ah am ad af;replace ah:=Hd ah;replace am:=Hd am;replace ad:=Hd ad;replace af:=Hd af;replace hW9:=Hd hW9;go_wp2_with fail
    refine bodyPost_ret (B9 (v:=.agg #[.int .i64 kk,.string ⟨#[]⟩,.int .i64 0,.float .f64 0,.bool false,.slice a3 lj.length c3]) rfl rfl (run_loadVar_mid (P:=Tryz.prog) _ _ 0 26 _ _ ah.out Tryz.underlying26 rfl Ad)) rfl ?_;rw [bh.out];exact ⟨a3,c3,rfl,af.out,am.out,ad.out⟩
end R2.R3
def listO (k u:Nat):Out (List V × Nat × Nat)->Out (V × Nat × Nat)
 | .stop q=>.stop q
 | .got (l,u2,m2)=>.got (.mk (k:Int) ⟨#[]⟩ 0 0 false l,1+u+u2,m2)
theorem F5 {rp:Rp} {w0 w:World} {g b o n cap at_ many u len N:Nat} {s:ByteArray} {d:Int} {c:UInt8} {t L:List UInt8} {res:Out (List V × Nat × Nat)} {R:Out (V × Nat × Nat)} (h:RS rp w0 w g b o n cap s at_ many) (hL:s.data.toList.drop at_=c :: L)
  (hk:(Ab c=5/\N=len)\/(Ab c=13/\N=len)\/(Ab c=14/\N=len)\/(Ab c=12/\N=2 * len)) (hl:Az L=.got (t,u)) (hn:¬(t=[45,49]/\(Ab c=4\/Ab c=5))) (hm:numS t 1000=some len)
  (hbw:b<w.heap.size)
  (hcall:∀W,RS rp w0 W g b o n cap s (at_+1+u) many->Calls Tryz.prog 70 #[.pointer (some ⟨g,0,none⟩),.int .i64 (Ab c:Int),.int .i64 (N:Int),.int .i64 d] W (ListQ rp w0 g b o n cap s (Ab c:Int) (at_+1+u) res W))
  (hR:R=listO (Ab c) u res) :
  Calls Tryz.prog 46 #[.pointer (some ⟨g,0,none⟩),.int .i64 d] w (ValQ rp w0 g b o n cap s at_ R w):=by
 have hle:len<=1000:=numS_le hm;replace hcall:=Hd hcall;replace hR:=Hd hR;obtain ⟨kd,hkd⟩:∃kd,kd=Ab c:=⟨_,rfl⟩;rw [<-hkd] at hk hn;have ba:=line_len hl;have bb:(⟨t.toArray⟩:ByteArray).size<=1000000:=by
  rw [Ax];show t.length<=_;omega
 have a2:((⟨t.toArray⟩:ByteArray).toList == [45,49])=decide (t=[45,49]):=by
  rw [ByteArray.toList_eq];show (t == [45,49])=_;rw [Bool.eq_iff_iff,beq_iff_eq,decide_eq_true_eq]
 replace hl:=Hd hl;have hlt:at_<n:=by
  rcases Nat.lt_or_ge at_ n with hh | hh
  ·exact hh
  ·rw [List.drop_of_length_le (by rw [<-Ax,h.scan.size];exact hh)] at hL;cases hL
 have hai:¬(n:Int)<=(at_:Int):=by omega
 have hai2:(at_:Int)<(n:Int):=by omega
 have hbig:=h.scan.big;obtain ⟨hcel,hL2⟩:w.cell? ⟨b,o+at_,none⟩=some (.int .u8 (c.toNat:Int))/\s.data.toList.drop (at_+1)=L:=by
  have hz:=h.scan.size;have h1:=h.scan.bytes at_ (by omega);have e1:=Lib.data_getElem? s at_ (by omega);have e2:s.data.toList[at_]?=some c:=by
   have:=congrArg (·[0]?) hL
   simp only [List.getElem?_drop,Nat.add_zero] at this;exact this
  rw [e1] at e2;rw [h1,Option.some.inj e2];refine ⟨rfl,?_⟩;rw [<-List.drop_drop,hL];rfl
 have au:=World.block_lt_of_cell? _ _ hcel;replace au:b<w.heap.size:=au;replace hL:=Hd hL;replace hL2:=Hd hL2;replace hcel:=Hd hcel;obtain ⟨W1,hW1⟩:∃W1,W1=w.alloc (.cells #[.int .i64 0,.string ⟨#[]⟩,.int .i64 0,.float .f64 0,.bool false,.slice none 0 0] 26):=⟨_,rfl⟩;have aj:Below w.heap.size w W1:=by rw [hW1];exact (Below.refl _ _).alloc (Nat.le_refl _) _
 have h1:=h.grow aj;have av:W1.rangeAt w.heap.size 0 [.int .i64 0,.string ⟨#[]⟩,.int .i64 0,.float .f64 0,.bool false,.slice none 0 0]:=by
  rw [hW1];intro q x hq;rw [Nat.zero_add,World.cell?_alloc_new];simpa using hq
 have aw:Blk W1 w.heap.size:=by rw [hW1];exact Blk.new _ _ _
 have c0:=h1.scan.c0;have c1:=h1.scan.c1;have hgl:g<W1.heap.size:=h1.scan.blk.lt;have hgw:g<w.heap.size:=h.scan.blk.lt;replace hW1:=Hd hW1;replace aj:=Hd aj;replace h1:=Hd h1;replace av:=Hd av;replace aw:=Hd aw;replace h:=Hd h
 go_enter Tryz.func46,Tryz.ntmps46
 go_wp2_with fail
 rw [<-hW1.out];refine Ae (by kernel_rfl) (by kernel_rfl) ?_;repeat (go_big_quiet_step ((fail)))
 refine wpQuiet_nil ?_;rintro _ ⟨xq,rfl⟩;have hS:=Ah W1 xq;obtain ⟨W2,hW2⟩:∃W2,W2=grow W1 xq:=⟨_,rfl⟩;rw [<-hW2] at hS ⊢;replace hW2:=Hd hW2;have h2:=Hd (h1.out.grow hS);have m:Below w.heap.size w W2:=aj.out.trans (hS.mono aj.out.size);have ax:W2.rangeAt w.heap.size 0 [.int .i64 0,.string ⟨#[]⟩,.int .i64 0,.float .f64 0,.bool false,.slice none 0 0]:=fun q x hq=>by rw [hS.cell (World.block_lt_of_cell? _ _ (av.out q x hq))];exact av.out q x hq
 have ay:Blk W2 w.heap.size:=aw.out.of_block (hS.block _ aw.out.lt);clear c0 c1 hS;replace m:=Hd m;replace ax:=Hd ax;replace ay:=Hd ay;have c0:=h2.out.scan.c0;have c1:=h2.out.scan.c1;have cc:=(m.out.cell (p:=⟨b,o+at_,none⟩) au).trans hcel.out;have hgl2:g<W2.heap.size:=h2.out.scan.blk.lt;have hbl2:b<W2.heap.size:=Nat.lt_of_lt_of_le au m.out.size;go_wp2_with fail
 refine Ae (by kernel_rfl) (by kernel_rfl) ?_;repeat (go_big_quiet_step ((go_at_call 63;(with_reducible exact Bl (Cx _ _)))))
 refine wpQuiet_nil ?_;rintro _ ⟨xq,rfl⟩;have hS:=Ah W2 xq;obtain ⟨W3,hW3⟩:∃W3,W3=grow W2 xq:=⟨_,rfl⟩;rw [<-hW3] at hS ⊢;replace hW3:=Hd hW3;have h3:=Hd (h2.out.grow hS);have a3:Below w.heap.size w W3:=m.out.trans (hS.mono m.out.size);have a4:W3.rangeAt w.heap.size 0 [.int .i64 0,.string ⟨#[]⟩,.int .i64 0,.float .f64 0,.bool false,.slice none 0 0]:=fun q x hq=>by rw [hS.cell (World.block_lt_of_cell? _ _ (ax.out q x hq))];exact ax.out q x hq
 have a5:Blk W3 w.heap.size:=ay.out.of_block (hS.block _ ay.out.lt);clear c0 c1 hS cc;replace a3:=Hd a3;replace a4:=Hd a4;replace a5:=Hd a5;rw [<-hkd];have hk0:((kd:Int) == 0)=false:=by simp;omega
 replace hkd:=Hd hkd;have c1:=h3.out.scan.c1;have fz:=h3.out.scan.blk.frz 1 none;go_wp2_with fail
 have e4:(at_:Int)+1=((at_+1:Nat):Int):=by omega
 rw [e4];have a6:Fr (fun k=>k=g) w (W3.setCell ⟨g,1,none⟩ (.int .i64 ((at_+1:Nat):Int))):=Fr.setCell (S:=fun k=>k=g) (Am a3.out) (fun _=>rfl) _;have h4:RS rp w0 (W3.setCell ⟨g,1,none⟩ (.int .i64 ((at_+1:Nat):Int))) g b o n cap s (at_+1) many:=h3.out.next (Fr.setCell (S:=fun k=>k=g) (Fr.refl _ _) (fun _=>rfl) _) (h3.out.scan.move _) (by omega);have a7:(W3.setCell ⟨g,1,none⟩ (.int .i64 ((at_+1:Nat):Int))).rangeAt w.heap.size 0 [.int .i64 0,.string ⟨#[]⟩,.int .i64 0,.float .f64 0,.bool false,.slice none 0 0]:=fun q x hq=>by
  rw [Ac (fun e=>by have:=congrArg Addr.block e;simp at this;omega)];exact a4.out q x hq
 have a8:Blk (W3.setCell ⟨g,1,none⟩ (.int .i64 ((at_+1:Nat):Int))) w.heap.size:=a5.out.setCell _ _;generalize W3.setCell ⟨g,1,none⟩ (.int .i64 ((at_+1:Nat):Int))=W4 at *;clear c1 fz e4;replace h4:=Hd h4;replace a6:=Hd a6;replace a7:=Hd a7;replace a8:=Hd a8;refine (Ft h4.out.scan h4.out.le (by rw [hL2.out];exact hl.out)).mono ?_;rintro e W6 ⟨rfl,aq,bd,a1⟩;have h6:=Hd (h4.out.next aq bd a1);have az:=Hd (a6.out.trans aq);have j:¬w.heap.size=g:=by omega
 have ah:W6.rangeAt w.heap.size 0 [.int .i64 0,.string ⟨#[]⟩,.int .i64 0,.float .f64 0,.bool false,.slice none 0 0]:=fun q x hq=>aq.cell (a7.out q x hq) j;have ai:Blk W6 w.heap.size:=a8.out.fr aq j;clear aq bd a1;replace ah:=Hd ah;replace ai:=Hd ai;rw [<-hkd.out] at hcall hR;have a0:=Hd (number_got (w:=W6) (t:=⟨t.toArray⟩) (most:=1000) bb (by omega) h6.out.nums hm);clear hm ba bb;generalize (⟨t.toArray⟩:ByteArray)=T at *;go_upto_region 8 with fail
 go_cut [51] from 43 to 51 (fun s5 wx=>s5=.bool false/\wx=W6)
 case first=>
  rcases hk with ⟨rfl,_⟩ | ⟨rfl,_⟩ | ⟨rfl,_⟩ | ⟨rfl,_⟩
  ·by_cases ht:t=[45,49]
   ·exact absurd ⟨ht,.inr rfl⟩ hn
   ·rw [decide_eq_false ht] at a2
    replace ht:=Hd ht;clear hn;go_wp2_with fail
    go_meet
    exact ⟨rfl,rfl⟩
  all_goals
   clear hn
   rcases Bool.eq_false_or_eq_true (decide (t=[45,49])) with hd | hd
   all_goals
    rw [hd] at a2
    replace hd:=Hd hd
    go_wp2_with fail
    go_meet
    exact ⟨rfl,rfl⟩
 obtain ⟨rfl,ar⟩:=hcut;obtain rfl:=ar.symm;clear ar hn a2;have be:((kd=5\/kd=13\/kd=14)/\N=len)\/kd=12/\N=2 * len:=by omega
 clear hk;rcases be with ⟨hk,rfl⟩ | ⟨rfl,rfl⟩
 ·have z4:((kd:Int) == 4)=false:=by simp;omega
  have z10:((kd:Int) == 10)=false:=by simp;omega
  have z11:((kd:Int) == 11)=false:=by simp;omega
  go_upto_if 69 with fail
  go_cut [69] from 69 to 72 (fun s5 wx=>s5=.bool true/\wx=W6)
  case first=>
   rcases hk with rfl | rfl | rfl
   all_goals
    go_wp2_with fail
    go_meet
    exact ⟨rfl,rfl⟩
  obtain ⟨rfl,ar⟩:=hcut;obtain rfl:=ar.symm;clear ar;go_wp2_with fail
  refine a0.out.mono ?_;rintro e W7 ⟨rfl,hb⟩;have h7:=Hd (h6.out.grow hb);have ak:=Hd (az.out.trans (Am (g:=g) hb));have ae:W7.rangeAt w.heap.size 0 [.int .i64 0,.string ⟨#[]⟩,.int .i64 0,.float .f64 0,.bool false,.slice none 0 0]:=fun q x hq=>by rw [(hb).cell (World.block_lt_of_cell? _ _ (ah.out q x hq))];exact ah.out q x hq
  have y:Blk W7 w.heap.size:=ai.out.of_block ((hb).block _ ai.out.lt);replace ae:=Hd ae;replace y:=Hd y;clear hb;go_wp2_with fail
  refine (hcall.out W7 h7.out).mono ?_;intro e W8 he;have al:=hR.out;cases res with
  | stop q=>
   obtain ⟨rfl,m⟩:=he;subst al;exact ⟨rfl,rfl,ak.out.trans m⟩
  | got r=>
   obtain ⟨l,u2,m2⟩:=r;obtain ⟨a,f,rfl,ad,ab,h8⟩:=he;subst al;clear hcall hR;have ac:=ak.out.trans ab;have j:¬w.heap.size=g:=by omega
   have am:W8.rangeAt w.heap.size 0 [.int .i64 0,.string ⟨#[]⟩,.int .i64 0,.float .f64 0,.bool false,.slice none 0 0]:=fun q x hq=>ab.cell (ae.out q x hq) j;have an:Blk W8 w.heap.size:=y.out.fr ab j;have ao:=y.out.lt;clear ab;have z:=Af (n:=6) am an rfl;have af:(W8.setCells w.heap.size 0 [.int .i64 (kd:Int),.string ⟨#[]⟩,.int .i64 0,.float .f64 0,.bool false,.slice a l.length f]).rangeAt w.heap.size 0 [.int .i64 (kd:Int),.string ⟨#[]⟩,.int .i64 0,.float .f64 0,.bool false,.slice a l.length f]:=World.rangeAt_setCells_same _ _ _ _ z;have aa:Fr (fun k=>k=w.heap.size) W8 (W8.setCells w.heap.size 0 [.int .i64 (kd:Int),.string ⟨#[]⟩,.int .i64 0,.float .f64 0,.bool false,.slice a l.length f]):=Fr.setCells (S:=fun k=>k=w.heap.size) (fun _=>rfl) _ _ _ (Fr.refl _ _);have a9:=Hd (ac.trans_new aa (fun i hi e=>by omega))
   have ag:RS rp w0 (W8.setCells w.heap.size 0 [.int .i64 (kd:Int),.string ⟨#[]⟩,.int .i64 0,.float .f64 0,.bool false,.slice a l.length f]) g b o n cap s _ m2:=h8.fr aa (by omega) (by omega) (fun i e=>by have:=h.out.base;omega);have ap:=Hd (ad.mono (Gl aa ao));replace z:=Hd z;replace af:=Hd af;replace ag:=Hd ag;clear aa ad h8 ac am an;go_wp2_with (refine wpList_store_mid rfl 26 _ _ rfl w.heap.size 0 _ rfl rfl z.out Ad (one6 _ _ _ _ _ _ _ _) ?_)
   refine bodyPost_ret (B9 (v:=.agg #[.int .i64 (kd:Int),.string ⟨#[]⟩,.int .i64 0,.float .f64 0,.bool false,.slice a l.length f]) rfl rfl (run_loadVar_mid (P:=Tryz.prog) _ _ 0 26 _ _ af.out Tryz.underlying26 rfl Ad)) rfl ?_;exact ⟨a,f,rfl,ap.out,a9.out,by rw [show at_+(1+u+u2)=at_+1+u+u2 by omega];exact ag.out⟩
 ·go_wp2_with fail
  refine a0.out.mono ?_;rintro e W7 ⟨rfl,hb⟩;have h7:=Hd (h6.out.grow hb);have ak:=Hd (az.out.trans (Am (g:=g) hb));have ae:W7.rangeAt w.heap.size 0 [.int .i64 0,.string ⟨#[]⟩,.int .i64 0,.float .f64 0,.bool false,.slice none 0 0]:=fun q x hq=>by rw [(hb).cell (World.block_lt_of_cell? _ _ (ah.out q x hq))];exact ah.out q x hq
  have y:Blk W7 w.heap.size:=ai.out.of_block ((hb).block _ ai.out.lt);replace ae:=Hd ae;replace y:=Hd y;clear hb;go_wp2_with fail
  have bc:(2:Int) * (len:Int)=((2 * len:Nat):Int):=by omega
  try rw [bc]
  clear bc;refine (hcall.out W7 h7.out).mono ?_;intro e W8 he;have al:=hR.out;cases res with
  | stop q=>
   obtain ⟨rfl,m⟩:=he;subst al;exact ⟨rfl,rfl,ak.out.trans m⟩
  | got r=>
   obtain ⟨l,u2,m2⟩:=r;obtain ⟨a,f,rfl,ad,ab,h8⟩:=he;subst al;clear hcall hR;have ac:=ak.out.trans ab;have j:¬w.heap.size=g:=by omega
   have am:W8.rangeAt w.heap.size 0 [.int .i64 0,.string ⟨#[]⟩,.int .i64 0,.float .f64 0,.bool false,.slice none 0 0]:=fun q x hq=>ab.cell (ae.out q x hq) j;have an:Blk W8 w.heap.size:=y.out.fr ab j;have ao:=y.out.lt;clear ab;have z:=Af (n:=6) am an rfl;have af:(W8.setCells w.heap.size 0 [.int .i64 12,.string ⟨#[]⟩,.int .i64 0,.float .f64 0,.bool false,.slice a l.length f]).rangeAt w.heap.size 0 [.int .i64 12,.string ⟨#[]⟩,.int .i64 0,.float .f64 0,.bool false,.slice a l.length f]:=World.rangeAt_setCells_same _ _ _ _ z;have aa:Fr (fun k=>k=w.heap.size) W8 (W8.setCells w.heap.size 0 [.int .i64 12,.string ⟨#[]⟩,.int .i64 0,.float .f64 0,.bool false,.slice a l.length f]):=Fr.setCells (S:=fun k=>k=w.heap.size) (fun _=>rfl) _ _ _ (Fr.refl _ _);have a9:=Hd (ac.trans_new aa (fun i hi e=>by omega))
   have ag:RS rp w0 (W8.setCells w.heap.size 0 [.int .i64 12,.string ⟨#[]⟩,.int .i64 0,.float .f64 0,.bool false,.slice a l.length f]) g b o n cap s _ m2:=h8.fr aa (by omega) (by omega) (fun i e=>by have:=h.out.base;omega);have ap:=Hd (ad.mono (Gl aa ao));replace z:=Hd z;replace af:=Hd af;replace ag:=Hd ag;clear aa ad h8 ac am an;go_wp2_with (refine wpList_store_mid rfl 26 _ _ rfl w.heap.size 0 _ rfl rfl z.out Ad (one6 _ _ _ _ _ _ _ _) ?_)
   refine bodyPost_ret (B9 (v:=.agg #[.int .i64 12,.string ⟨#[]⟩,.int .i64 0,.float .f64 0,.bool false,.slice a l.length f]) rfl rfl (run_loadVar_mid (P:=Tryz.prog) _ _ 0 26 _ _ af.out Tryz.underlying26 rfl Ad)) rfl ?_;exact ⟨a,f,rfl,ap.out,a9.out,by rw [show at_+(1+u+u2)=at_+1+u+u2 by omega];exact ag.out⟩
