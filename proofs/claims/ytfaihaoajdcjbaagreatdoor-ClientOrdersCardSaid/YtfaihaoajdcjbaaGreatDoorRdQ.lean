/- The reader: lists. -/
import Derived.Test.YtfaihaoajdcjbaaGreatDoorJ21
import Derived.Test.YtfaihaoajdcjbaaGreatDoorRely3
set_option linter.all false
namespace Go.Proofs.YtfaihaoajdcjbaaGreatDoor
open Go.RowKit
def VAt (rp:Rp) (w0:World) (g b o n cap:Nat) (s:ByteArray) (at2:Nat) (out:Out (V × Nat × Nat)) (wr:World) (v:Value) (w:World):Prop:=
 ∃(x:V) (u m:Nat) (a:Option Addr) (ca:Nat),out=.got (x,u,m)/\v=.agg #[.int .i64 x.kind,.string x.text,.int .i64 x.int,.float .f64 x.real,.bool x.flag,.slice a x.list.length ca] /\
   RV (Aq wr.heap.size w) (Aj x.kind x.text x.int x.real x.flag a x.list.length ca) x/\Fr (fun k=>k=g) wr w/\RS rp w0 w g b o n cap s (at2+u) m
def VSl (rp:Rp) (w0:World) (g b o n cap:Nat) (s:ByteArray) (at2:Nat) (out:Out (V × Nat × Nat)) (wr:World) (v:Value) (w:World):Prop:=
 ∃(x:V) (u m:Nat) (a:Option Addr) (ca bl:Nat),out=.got (x,u,m)/\v=.slice (some ⟨bl,0,none⟩) 1 1/\w.heap[bl]?=some (.cells #[.int .i64 x.kind,.string x.text,.int .i64 x.int,.float .f64 x.real,.bool x.flag,.slice a x.list.length ca] 40 (0,0)) /\
   RV (Aq wr.heap.size w) (Aj x.kind x.text x.int x.real x.flag a x.list.length ca) x/\Fr (fun k=>k=g) wr w/\RS rp w0 w g b o n cap s (at2+u) m
def VAp (rp:Rp) (w0:World) (g b o n cap:Nat) (s:ByteArray) (at2:Nat) (out:Out (V × Nat × Nat)) (wr:World) (B:Nat) (lv:Value) (css:List (List Value)) (lj:List V) (v:Value) (w:World):Prop:=
 ∃(x:V) (u m:Nat) (cs:List Value),out=.got (x,u,m)/\w.ownsRow B 40 6 v (lj.length+1) (css++[cs]).flatten/\RVs (nf B v.ownBlock w) (css++[cs]) (lj++[x]) /\
   Fr (fun k=>k=g\/lv.ownBlock=some k) wr w/\RS rp w0 w g b o n cap s (at2+u) m
def lqR (g:Nat) (i:Nat) (w w' : World):Prop:=match i with
 | 5=>Fr (fun k=>k=g) w w'
 | 6=>Below w.heap.size w w'
 | 7=>True
 | 9=>True
 | _=>w' = w
def LI (g:Nat) (wr:World) (q:Bool) (w:World):Prop:=match q with
 | true=>w=wr.drew
 | false=>Fr (fun k=>k=g) wr w
def LF (q:Bool):List Nat:=match q with
 | true=>[5,6,7,9]
 | false=>[7,9]
theorem nf_fr {B g:Nat} {own:Option Nat} {w w' : World} (hf:Fr (fun k=>k=g) w w') (hg:g<B):∀a u,nf B own w a=some u->nf B own w' a=some u:=fun a u h=>by
 obtain ⟨h1,h2,h3⟩:=E2 h;exact nf_mk (hf.cell h1 (fun e=>by omega)) h2 h3
theorem RS.fr {rp:Rp} {w0 w w' : World} {g b o n cap at_ many:Nat} {s:ByteArray} (h:RS rp w0 w g b o n cap s at_ many) {S:Nat->Prop} (hf:Fr S w w') (hg:¬S g) (hb:¬S b) (hS:∀i,S i->w0.heap.size<=i):RS rp w0 w' g b o n cap s at_ many:=
 ⟨h.scan.fr hf hg hb,h.env,h.below.trans (hf.below h.below.size (fun i hi e=>by have:=hS i e;omega)),h.base,h.le⟩
theorem reads_blockR {w:World} {b size:Nat} {us:Array Value} {t:TypeId} (h:w.heap[b]?=some (.cells us t (0,0))) (hs:us.size=size):Reads w size (.slice (some ⟨b,0,none⟩) 1 1) 1 us.toList:=
 ⟨_,_,rfl,by simp [hs],fun j u hj=>⟨b,0,rfl,by simp [World.cell?,h];simpa using hj⟩⟩
theorem ls_next {rp:Rp} {w0 w wr w6:World} {g b o n cap:Nat} {s:ByteArray} {kk:Int} {at_ uj mj:Nat} {a3 a31:Option Addr} {c3 c31:Nat} {css:List (List Value)} {lj:List V} {f:Nat->List UInt8->Out (V × Nat × Nat)} {x:V} {u1 m:Nat} {cs:List Value}
   (hls:LSr rp w0 w wr g b o n cap s kk at_ uj mj (.slice a3 lj.length c3) css lj) (hfm:Hid (∀(m:Nat) (L:List UInt8) (v:V) (u m' : Nat),m<=1000->f m L=.got (v,u,m')->m' <= 1000)) (hg5:¬w.heap.size+1=g) (hgw:g<w.heap.size) (hbw:b<w.heap.size)
   (g1:f mj (s.data.toList.drop (at_+uj))=.got (x,u1,m)) (g2:w6.ownsRow (w.heap.size+2) 40 6 (.slice a31 (lj.length+1) c31) (lj.length+1) (css++[cs]).flatten) (g3:RVs (nf (w.heap.size+2) (Value.slice a31 (lj.length+1) c31).ownBlock w6) (css++[cs]) (lj++[x]))
   (g4:Fr (fun k=>k=g\/(Value.slice a3 lj.length c3).ownBlock=some k) wr w6) (g5:RS rp w0 w6 g b o n cap s (at_+uj+u1) m) :
   LSr rp w0 w (w6.setCell ⟨w.heap.size+1,5,none⟩ (.slice a31 (lj.length+1) c31)) g b o n cap s kk at_ (uj+u1) m (.slice a31 (lj.length+1) c31) (css++[cs]) (lj++[x]):=by
 have hl1:(lj++[x]).length=lj.length+1:=by simp
 have hfs:Fr (fun k=>k=w.heap.size+1) w6 (w6.setCell ⟨w.heap.size+1,5,none⟩ (.slice a31 (lj.length+1) c31)):=Fr.setCell (S:=fun k=>k=w.heap.size+1) (Fr.refl _ _) (fun _=>rfl) _;have hob:∀k,(Value.slice a3 lj.length c3).ownBlock=some k->w.heap.size+2<=k:=fun k hk=>(An hls.own k hk).1;have hn1:¬(w.heap.size+1=g\/(Value.slice a3 lj.length c3).ownBlock=some (w.heap.size+1)):=fun e=>by
   rcases e with e | e
   · omega
   · have:=hob _ e;omega
 have hn0:¬(w.heap.size=g\/(Value.slice a3 lj.length c3).ownBlock=some w.heap.size):=fun e=>by
   rcases e with e | e
   · omega
   · have:=hob _ e;omega
 have hb1:=hls.blk1.fr g4 hn1;have k1:∀j u,wr.cell? ⟨w.heap.size+1,j,none⟩=some u->j≠5->(w6.setCell ⟨w.heap.size+1,5,none⟩ (.slice a31 (lj.length+1) c31)).cell? ⟨w.heap.size+1,j,none⟩=some u:=fun j u hu hj=>by
   rw [Ab (fun e=>hj (congrArg Addr.off e).symm)];exact g4.cell hu hn1
 refine ⟨?_,hfm.out mj _ x u1 m hls.many g1,?_,g3.mono (nf_fr hfs (by omega)),?_,?_,(hls.blk.fr g4 hn0).setCell _ _,hb1.setCell _ _,?_,?_⟩
 · rw [<-Nat.add_assoc]
   exact g5.fr hfs (fun e=>hg5 e.symm) (fun e=>by omega) (fun i e=>by have:=hls.rs.base;omega)
 · rw [hl1]
   exact Dj g2 hfs (fun k hk e=>by have:=(An g2 k hk).1;omega)
 · refine Cj (k1 _ _ (by simpa using hls.full 0 _ rfl) (by omega)) (k1 _ _ (by simpa using hls.full 1 _ rfl) (by omega)) (k1 _ _ (by simpa using hls.full 2 _ rfl) (by omega)) (k1 _ _ (by simpa using hls.full 3 _ rfl) (by omega)) (k1 _ _ (by simpa using hls.full 4 _ rfl) (by omega)) ?_
   exact Af (g4.cell (p:=⟨w.heap.size+1,5,none⟩) (hls.full 5 _ rfl) hn1)
 · intro q u hq
   exact hfs.cell (g4.cell (hls.zero q u hq) hn0) (by show ¬w.heap.size=w.heap.size+1;omega)
 · refine hls.fr.trans_new (Fr.trans (g4.mono (fun _ _ e=>Or.inl e)) (hfs.mono (fun _ _ e=>Or.inr e)):Fr (fun k=>(k=g\/(Value.slice a3 lj.length c3).ownBlock=some k)\/k=w.heap.size+1) wr _) (fun i hi e=>?_)
   rcases e with (e | e) | e
   · exact e
   · have:=hob _ e;omega
   · omega
 · have:=hfs.size;have:=g4.size;have:=hls.size;omega
def LZ (y0:World) (g:Nat) (f:Nat->List UInt8->Out (V × Nat × Nat)) (res:Out (List V × Nat × Nat)) (mj:Nat) (L:List UInt8) (c:List PanicEntry) (w:World):Prop:=
 ∃q,f mj L=.stop q/\Ending.panicked c=Bf q/\Fr (fun k=>k=g) y0 w
def ListQ (rp:Rp) (w0:World) (g b o n cap:Nat) (s:ByteArray) (kk:Int) (at_:Nat) (res:Out (List V × Nat × Nat)) (w:World) (e:Ending) (w' : World):Prop:=
 match res with
 | .stop q=>e=Bf q/\Fr (fun k=>k=g) w w'
 | .got (l,u,m)=>∃(a:Option Addr) (ca:Nat),e=.returned (.agg #[.int .i64 kk,.string ⟨#[]⟩,.int .i64 0,.float .f64 0,.bool false,.slice a l.length ca]) /\
     RV (Aq w.heap.size w') (Aj kk ⟨#[]⟩ 0 0 false a l.length ca) (.mk kk ⟨#[]⟩ 0 0 false l)/\Fr (fun k=>k=g) w w' /\ RS rp w0 w' g b o n cap s (at_+u) m
theorem Fl {B x:Nat} {w w' : World} (hf:Fr (fun k=>k=x) w w') (hx:x<B:=by omega):∀a u,Aq B w a=some u->Aq x w' a=some u:=fun a u h=>by
 obtain ⟨h1,h2⟩:=A5 h;unfold Aq;rw [if_neg (by omega)];exact hf.cell h1 (fun e=>by omega)
namespace R2.R3
set_option maxRecDepth 100000 in
set_option maxHeartbeats 6400000 in
theorem list_any {rp:Rp} {w0 y0:World} {g b o n cap at_ many len:Nat} {s:ByteArray} {d kk:Int} {need:Nat->List UInt8->Prop} {f:Nat->List UInt8->Out (V × Nat × Nat)} (h:RS rp w0 y0 g b o n cap s at_ many) (hbw0:b<y0.heap.size) (hm:many+len<=1000) (hd0:0<=d) (hd:d<8) (hk:¬(kk=14/\(len=0\/0<d)))
   (hval:∀(W:World) (at2 m2:Nat),RS rp w0 W g b o n cap s at2 m2->m2<=1000->need m2 (s.data.toList.drop at2)->Calls Tryz.prog 77 #[.pointer (some ⟨g,0,none⟩),.int .i64 (d+1)] W (ValQ rp w0 g b o n cap s at2 (f m2 (s.data.toList.drop at2)) W))
   (hfm:∀(m:Nat) (L:List UInt8) (v:V) (u m' : Nat),m<=1000->f m L=.got (v,u,m')->m' <= 1000)
   (hnd:needN need f len (many+len) (s.data.toList.drop at_)) :
   Calls Tryz.prog 106 #[.pointer (some ⟨g,0,none⟩),.int .i64 kk,.int .i64 (len:Int),.int .i64 d] y0 (ListQ rp w0 g b o n cap s kk at_ (Bo f len (many+len) (s.data.toList.drop at_)) y0):=by
 obtain ⟨W1,hW1⟩:∃W1,W1=(y0.alloc (.cells #[.int .i64 0,.string ⟨#[]⟩,.int .i64 0,.float .f64 0,.bool false,.slice none 0 0] 40)).alloc (.cells #[.int .i64 kk,.string ⟨#[]⟩,.int .i64 0,.float .f64 0,.bool false,.slice none 0 0] 40):=⟨_,rfl⟩;have hT:=Two.start y0 kk ⟨#[]⟩ 0 0 false;rw [<-hW1] at hT;have hs1:W1.heap.size=y0.heap.size+2:=by rw [hW1];simp
 have h1:=h.grow hT.below;have c2:=h1.scan.c2;have fz:=h1.scan.blk.frz 2 none;have hgw:g<y0.heap.size:=h.scan.blk.lt;have y1:¬(1000:Int)<(many:Int)+(len:Int):=by omega
 have y2:¬8<=d:=by omega
 have hlinks:=Links.start (f:=f) (D:=s.data.toList) (at_:=at_) (n:=len) (m:=many+len) hnd;clear hnd;obtain ⟨res,hres⟩:∃res,res=Bo f len (many+len) (s.data.toList.drop at_):=⟨_,rfl⟩;rw [<-hres] at hlinks ⊢;have hf2:Fr (fun k=>k=g) y0 (W1.setCell ⟨g,2,none⟩ (.int .i64 ((many:Int)+(len:Int)))):=Fr.setCell (S:=fun k=>k=g) (Ah hT.below) (fun _=>rfl) _;have hLS:LSr rp w0 y0 (W1.setCell ⟨g,2,none⟩ (.int .i64 ((many:Int)+(len:Int)))) g b o n cap s kk at_ 0 (many+len) (.slice none 0 0) [] []:=by
   have hfr1:Fr (fun k=>k=g) W1 (W1.setCell ⟨g,2,none⟩ (.int .i64 ((many:Int)+(len:Int)))):=Fr.setCell (S:=fun k=>k=g) (Fr.refl _ _) (fun _=>rfl) _;refine ⟨?_,hm,World.ownsRow_nil _ _ _ _,RVs.nil _,fun q x hq=>hfr1.cell (hT.full q x hq) (by show ¬y0.heap.size+1=g;omega),fun q x hq=>hfr1.cell (hT.zero q x hq) (by show ¬y0.heap.size=g;omega),hT.blk.fr hfr1 (by omega),hT.blk1.fr hfr1 (by omega),hf2,?_⟩
   · have:=h1.scan.count (many+len)
     rw [show ((many+len:Nat):Int)=(many:Int)+(len:Int) by omega] at this;exact h1.next hfr1 (by simpa using this) (by simpa using h1.le)
   · have:=hfr1.size;omega
 generalize hW2:W1.setCell ⟨g,2,none⟩ (.int .i64 ((many:Int)+(len:Int)))=W2 at hLS hf2;replace hW2:=Hd hW2;replace hW1:=Hd hW1;replace hT:=Hd hT;replace h1:=Hd h1;replace h:=Hd h;replace hlinks:=Hd hlinks;replace hres:=Hd hres;replace hLS:=Hd hLS;replace hval:=Hd hval;replace hfm:=Hd hfm;replace hf2:=Hd hf2;clear hs1;have hk3:(kk == 14)=false\/(kk == 14)=true/\((len:Int) == 0)=false/\¬0<d:=by
   by_cases h14:kk=14
   · right
     have:¬(len=0\/0<d):=fun hh=>hk ⟨h14,hh⟩;exact ⟨by simpa using h14,by simp;omega,by omega⟩
   · left;simpa using h14
 replace hk:=Hd hk;have hcl:∀(x y z:Bool),((x=false)\/(y=false/\z=false))->(x && (y || z))=false:=by decide
 go_enter Tryz.func106,Tryz.ntmps106
 go_upto_region 2 with fail
 rw [<-hW1.out];rcases hk3 with hk3 | ⟨hk3,hk4,hk5⟩
 all_goals
   go_wp2_with fail
   rw [hW2.out]
   go_loopw [43] (fun i wr=>∃(j uj mj:Nat) (lj:List V) (lv:Value) (css:List (List Value)),j<=len/\i=.int .i64 j/\lj.length=j/\LSr rp w0 y0 wr g b o n cap s kk at_ uj mj lv css lj/\Links need f res s.data.toList at_ (len - j) uj mj lj) (fun i _=>len - (intOf i).toNat)
   case atStart=>exact ⟨0,0,many+len,[],_,[],Nat.zero_le _,rfl,rfl,hLS.out,hlinks.out⟩
   case round=>
     obtain ⟨j,uj,mj,lj,lv,css,hj,rfl,hlj,hls,hlk⟩:=hrel;have hgw2:g<y0.heap.size:=hgw;by_cases hlt:j<len
     · obtain ⟨a3,c3,rfl⟩:=(Reads.of_owns hls.own).shape
       obtain ⟨lft,hlf⟩:∃lft,len - j=lft+1:=⟨len - j - 1,by omega⟩;rw [hlf] at hlk;have hlti:(j:Int)<(len:Int):=by omega
       have hw1:IntKind.i64.wrap (d+1)=d+1:=IntWalk.i64_in _ (by omega);have hw2:IntKind.i64.wrap ((j:Int)+1)=((j+1:Nat):Int):=by rw [IntWalk.i64_in _ (by omega)];rfl
       have hlm:=hls.many;have hg5:¬y0.heap.size+1=g:=by omega
       replace hls:=Hd hls;replace hlk:=Hd hlk;go_upto_region 7 with fail
       refine wp_region_rely (l:=[_,_,_,_,_,_,_,_,_,_]) (LZ y0 g f res mj (s.data.toList.drop (at_+uj))) ?_ (fun _=>True) (LI g wr) (lqR g) (fun kG_=>([fun v _=>v=.pointer (some ⟨y0.heap.size+1,5,none⟩),fun v _=>v=.slice a3 lj.length c3,fun v _=>v=.pointer (some ⟨g,0,none⟩),fun v _=>v=.int .i64 d,fun v _=>v=.int .i64 (d+1),fun v w=>VAt rp w0 g b o n cap s (at_+uj) (f mj (s.data.toList.drop (at_+uj))) wr v w,fun v w=>VSl rp w0 g b o n cap s (at_+uj) (f mj (s.data.toList.drop (at_+uj))) wr v w,fun v w=>VAp rp w0 g b o n cap s (at_+uj) (f mj (s.data.toList.drop (at_+uj))) wr (y0.heap.size+2) (.slice a3 lj.length c3) css lj v w,fun v _=>v=.pointer (some ⟨y0.heap.size+1,5,none⟩),fun v w=>∃(v1:Value) (w1:World),w=w1.setCell ⟨y0.heap.size+1,5,none⟩ v1/\VAp rp w0 g b o n cap s (at_+uj) (f mj (s.data.toList.drop (at_+uj))) wr (y0.heap.size+2) (.slice a3 lj.length c3) css lj v1 w1]:List (Value->World->Prop)).getD kG_ (fun _ _=>True)) (eats [(6,5),(7,6),(9,7)]) (fun q=>isIn (LF q)) (by kernel_rfl) (by kernel_rfl) (by kernel_rfl) trivial ?_ ?_ ?_ ?_ ?_
       · intro c aq x1 hd hz
         obtain ⟨q,h1,h2,h3⟩:=hz;show aq.defers=[]/\ListQ rp w0 g b o n cap s kk at_ res y0 (.panicked c) x1;refine ⟨hd,?_⟩;rw [hlk.out.stop h1];exact ⟨h2,h3⟩
       · intro q
         cases q
         · exact (Fr.refl _ _).drew
         · exact rfl
       · intro i kG_ u w w' hne hE hg hr
         rcases kG_ with _ | _ | _ | _ | _ | _ | _ | _ | _ | _ | kG_
         · exact hg
         · exact hg
         · exact hg
         · exact hg
         · exact hg
         · replace hg:(fun (v:Value) (w:World)=>VAt rp w0 g b o n cap s (at_+uj) (f mj (s.data.toList.drop (at_+uj))) wr v w) u w:=hg
           show (fun (v:Value) (w:World)=>VAt rp w0 g b o n cap s (at_+uj) (f mj (s.data.toList.drop (at_+uj))) wr v w) u w';dsimp only at hg ⊢;replace hE:exB _ _ i 5=false:=hE;replace hne:5≠i:=hne;unfold lqR at hr;split at hr
           all_goals first
             | exact absurd rfl hne
             | exact absurd (hE.symm.trans (by decide +kernel:exB _ _ _ _=true)) (by decide)
             | (subst hr;exact hg)
             | (fail)
         · replace hg:(fun (v:Value) (w:World)=>VSl rp w0 g b o n cap s (at_+uj) (f mj (s.data.toList.drop (at_+uj))) wr v w) u w:=hg
           show (fun (v:Value) (w:World)=>VSl rp w0 g b o n cap s (at_+uj) (f mj (s.data.toList.drop (at_+uj))) wr v w) u w';dsimp only at hg ⊢;replace hE:exB _ _ i 6=false:=hE;replace hne:6≠i:=hne;unfold lqR at hr;split at hr
           all_goals first
             | exact absurd rfl hne
             | exact absurd (hE.symm.trans (by decide +kernel:exB _ _ _ _=true)) (by decide)
             | (subst hr;exact hg)
             | (fail)
         · replace hg:(fun (v:Value) (w:World)=>VAp rp w0 g b o n cap s (at_+uj) (f mj (s.data.toList.drop (at_+uj))) wr (y0.heap.size+2) (.slice a3 lj.length c3) css lj v w) u w:=hg
           show (fun (v:Value) (w:World)=>VAp rp w0 g b o n cap s (at_+uj) (f mj (s.data.toList.drop (at_+uj))) wr (y0.heap.size+2) (.slice a3 lj.length c3) css lj v w) u w';dsimp only at hg ⊢;replace hE:exB _ _ i 7=false:=hE;replace hne:7≠i:=hne;unfold lqR at hr;split at hr
           all_goals first
             | exact absurd rfl hne
             | exact absurd (hE.symm.trans (by decide +kernel:exB _ _ _ _=true)) (by decide)
             | (subst hr;exact hg)
             | (fail)
         · exact hg
         · replace hg:(fun (v:Value) (w:World)=>∃(v1:Value) (w1:World),w=w1.setCell ⟨y0.heap.size+1,5,none⟩ v1/\VAp rp w0 g b o n cap s (at_+uj) (f mj (s.data.toList.drop (at_+uj))) wr (y0.heap.size+2) (.slice a3 lj.length c3) css lj v1 w1) u w:=hg
           show (fun (v:Value) (w:World)=>∃(v1:Value) (w1:World),w=w1.setCell ⟨y0.heap.size+1,5,none⟩ v1/\VAp rp w0 g b o n cap s (at_+uj) (f mj (s.data.toList.drop (at_+uj))) wr (y0.heap.size+2) (.slice a3 lj.length c3) css lj v1 w1) u w';dsimp only at hg ⊢;replace hE:exB _ _ i 9=false:=hE;replace hne:9≠i:=hne;unfold lqR at hr;split at hr
           all_goals first
             | exact absurd rfl hne
             | exact absurd (hE.symm.trans (by decide +kernel:exB _ _ _ _=true)) (by decide)
             | (subst hr;exact hg)
             | (fail)
         · trivial
       · intro q i x1 x2 hF hI hr
         unfold lqR at hr;split at hr
         · cases q
           · exact Fr.trans hI hr
           · exact absurd hF (by decide)
         · cases q
           · exact Fr.trans hI (Ah hr)
           · exact absurd hF (by decide)
         · cases q<;>exact absurd hF (by decide)
         · cases q<;>exact absurd hF (by decide)
         · subst hr;exact hI
       · refine ⟨?_,?_,?_,?_,?_,?_,?_,?_,?_,?_,trivial⟩
         · refine VC.plain rfl fun a wx hf=>?_
           have s9:=hf.old 9 (by first | rfl | kernel_rfl);have q9:=Ac s9;exact gives_value (by simp [go_sem,q9,hw1]) ⟨hf.c,rfl,rfl⟩
         · refine VC.plain rfl fun a wx hf=>?_
           obtain ⟨v45,g45,s45⟩:=hf.got 0 (by kernel_rfl) (by intro j hj;simp [eats] at hj) rfl rfl;replace s45:=s45.trans (show v45=.pointer (some ⟨y0.heap.size+1,5,none⟩) from g45);clear g45;have q45:=Ac s45;have hI:=hf.start false (by kernel_rfl);have hc5:=Fr.cell (p:=⟨y0.heap.size+1,5,none⟩) hI (hls.out.full 5 _ rfl) hg5;exact gives_value (by simp [go_sem,q45,hc5]) ⟨trivial,rfl,rfl⟩
         · refine VC.plain rfl fun a wx hf=>?_
           have s0:=hf.old 0 (by first | rfl | kernel_rfl);have q0:=Ac s0;exact gives_value (by simp [go_sem,q0,hw1]) ⟨hf.c,rfl,rfl⟩
         · refine VC.plain rfl fun a wx hf=>?_
           have s3:=hf.old 3 (by first | rfl | kernel_rfl);have q3:=Ac s3;exact gives_value (by simp [go_sem,q3,hw1]) ⟨hf.c,rfl,rfl⟩
         · refine VC.plain rfl fun a wx hf=>?_
           obtain ⟨v48,g48,s48⟩:=hf.got 3 (by kernel_rfl) (by intro j hj;simp [eats] at hj) rfl rfl;replace s48:=s48.trans (show v48=.int .i64 d from g48);clear g48;have q48:=Ac s48;exact gives_value (by simp [go_sem,q48,hw1]) ⟨hf.c,rfl,rfl⟩
         · refine VC.plain rfl fun a wx hf=>?_
           obtain ⟨v47,g47,s47⟩:=hf.got 2 (by kernel_rfl) (by intro j hj;simp [eats] at hj) rfl rfl;replace s47:=s47.trans (show v47=.pointer (some ⟨g,0,none⟩) from g47);clear g47;have q47:=Ac s47;obtain ⟨v49,g49,s49⟩:=hf.got 4 (by kernel_rfl) (by intro j hj;simp [eats] at hj) rfl rfl;replace s49:=s49.trans (show v49=.int .i64 (d+1) from g49);clear g49;have q49:=Ac s49;have hI:=hf.start true (by kernel_rfl);replace hI:wx=wr.drew:=hI;subst hI;refine gives_callZ (f:=77) (args:=#[.pointer (some ⟨g,0,none⟩),.int .i64 (d+1)]) (w' := wr.drew) (by simp [go_sem,q47,q49]) ?_;refine (hval.out wr.drew (at_+uj) mj (hls.out.rs.grow ((Below.refl _ _).drew)) hlm hlk.out.need).mono fun e x1 he=>?_;unfold ValQ at he;cases hfo:f mj (s.data.toList.drop (at_+uj)) with
           | stop q=>
             rw [hfo] at he;obtain ⟨he,hfr⟩:=he;have hfw:=Fr.trans hls.out.fr (Fr.trans ((Fr.refl (fun k=>k=g) wr).drew) hfr);exact .inr ⟨_,he,q,hfo,rfl,hfw⟩
           | got r=>
             obtain ⟨x,u1,m⟩:=r;rw [hfo] at he;obtain ⟨ad1,ca1,he,hrv,hfr,hrs⟩:=he;exact .inl ⟨_,he,trivial,hfr,x,u1,m,ad1,ca1,rfl,rfl,hrv,Fr.trans ((Fr.refl (fun k=>k=g) wr).drew) hfr,hrs⟩
         · refine VC.plain rfl fun a wx hf=>?_
           obtain ⟨v50,g50,s50⟩:=hf.got 5 (by kernel_rfl) (by intro j hj;simp [eats] at hj;omega) rfl rfl;have q50:=Ac s50;replace g50:(fun (v:Value) (w:World)=>VAt rp w0 g b o n cap s (at_+uj) (f mj (s.data.toList.drop (at_+uj))) wr v w) v50 wx:=g50;dsimp only at g50;obtain ⟨x,u1,m,ad1,ca1,g1,g2,g3,g4,g5⟩:=g50;subst g2;refine gives_value (u:=.slice (some ⟨wx.heap.size,0,none⟩) 1 1) (w' := wx.alloc (.cells #[.int .i64 x.kind,.string x.text,.int .i64 x.int,.float .f64 x.real,.bool x.flag,.slice ad1 x.list.length ca1] 40)) (by simp [go_sem,q50,Tryz.underlying38]) ⟨trivial,(Below.refl _ _).alloc (Nat.le_refl _) _,?_⟩;have hal:=(Below.refl wx.heap.size wx).alloc (Nat.le_refl _) (.cells #[.int .i64 x.kind,.string x.text,.int .i64 x.int,.float .f64 x.real,.bool x.flag,.slice ad1 x.list.length ca1] 40)
           exact ⟨x,u1,m,ad1,ca1,wx.heap.size,g1,rfl,(MapKept.heap_alloc wx _).1,g3.mono (newer_below hal),Fr.trans g4 (Ah hal),g5.grow hal⟩
         · refine VC.plain rfl fun a wx hf=>?_
           obtain ⟨v46,g46,s46⟩:=hf.got 1 (by kernel_rfl) (by intro j hj;simp [eats] at hj) rfl rfl;replace s46:=s46.trans (show v46=.slice a3 lj.length c3 from g46);clear g46;have q46:=Ac s46;obtain ⟨v51,g51,s51⟩:=hf.got 6 (by kernel_rfl) (by intro j hj;simp [eats] at hj;omega) rfl rfl;have q51:=Ac s51;replace g51:(fun (v:Value) (w:World)=>VSl rp w0 g b o n cap s (at_+uj) (f mj (s.data.toList.drop (at_+uj))) wr v w) v51 wx:=g51;dsimp only at g51;obtain ⟨x,u1,m,ad1,ca1,bl,g1,rfl,g2,g3,g4,g5⟩:=g51;have hown1:=Dj hls.out.own g4 (fun k hk hle=>by have:=(An hls.out.own k hk).1;omega);have hvs1:RVs (nf (y0.heap.size+2) (Value.slice a3 lj.length c3).ownBlock wx) css lj:=hls.out.vals.mono (nf_fr g4 (by omega))
           have hx1:RV (nf (y0.heap.size+2) (Value.slice a3 lj.length c3).ownBlock wx) (Aj x.kind x.text x.int x.real x.flag ad1 x.list.length ca1) x:=g3.mono (Ew hls.out.size (fun k hk=>(An hls.out.own k hk).2));have hll:=hlj.symm;refine Ee (Go.Proofs.YtfaihaoajdcjbaaGreatDoor.gives_append rfl eVal s46 hown1 s51 (reads_blockR g2 rfl) (fun h=>by cases h) (by simp [Value.oneCell']) (by omega) (by have:=g4.size;have:=hls.out.size;omega) (fun v' w' h1 h2 h3=>?_));refine ⟨trivial,trivial,x,u1,m,Aj x.kind x.text x.int x.real x.flag ad1 x.list.length ca1,g1,?_,((hvs1.snoc hx1).mono (Gh h2 h3)),?_,g5.fr h2 ?_ ?_ ?_⟩
           · rw [List.flatten_append];simpa [Aj] using h1
           · exact Fr.trans (g4.mono (fun _ _ h=>Or.inl h)) (h2.mono (fun _ _ h=>Or.inr h))
           · intro e;have:=(An hls.out.own g e).1;omega
           · intro e;have:=(An hls.out.own b e).1;omega
           · intro i e;have:=(An hls.out.own i e).1;have:=g5.base;omega
         · refine VC.plain rfl fun a wx hf=>?_
           have s9:=hf.old 9 (by first | rfl | kernel_rfl);have q9:=Ac s9;exact gives_value (by simp [go_sem,q9,hw1]) ⟨hf.c,rfl,rfl⟩
         · refine VC.plain rfl fun a wx hf=>?_
           obtain ⟨v53,g53,s53⟩:=hf.got 8 (by kernel_rfl) (by intro j hj;simp [eats] at hj) rfl rfl;replace s53:=s53.trans (show v53=.pointer (some ⟨y0.heap.size+1,5,none⟩) from g53);clear g53;have q53:=Ac s53;obtain ⟨v52,g52,s52⟩:=hf.got 7 (by kernel_rfl) (by intro j hj;simp [eats] at hj;omega) rfl rfl;have q52:=Ac s52;replace g52:(fun (v:Value) (w:World)=>VAp rp w0 g b o n cap s (at_+uj) (f mj (s.data.toList.drop (at_+uj))) wr (y0.heap.size+2) (.slice a3 lj.length c3) css lj v w) v52 wx:=g52;dsimp only at g52;have h1:=g52;obtain ⟨x,u1,m,cs,g1,g2,g3,g4,g5⟩:=g52;obtain ⟨a31,c31,rfl⟩:=(Reads.of_owns g2).shape;have hne:¬(y0.heap.size+1=g\/(Value.slice a3 lj.length c3).ownBlock=some (y0.heap.size+1)):=fun e=>by
             rcases e with e | e
             · omega
             · have:=(An hls.out.own _ e).1;omega
           have hc5:=Fr.cell (p:=⟨y0.heap.size+1,5,none⟩) g4 (hls.out.full 5 _ rfl) hne;exact gives_skip (w' := wx.setCell ⟨y0.heap.size+1,5,none⟩ _) (by simp [go_sem,q53,q52,hc5,(hls.out.blk1.fr g4 hne).frz 5 none]) ⟨trivial,trivial,_,wx,rfl,h1⟩
       · intro vs w5 _ hG
         obtain ⟨v1,w6,e,hx⟩:=hG 9 (by decide) (by decide);clear hG;subst e;obtain ⟨x,u1,m,cs,g1,g2,g3,g4,g5⟩:=hx;obtain ⟨a31,c31,rfl⟩:=(Reads.of_owns g2).shape;have hnx:=ls_next hls.out hfm hg5 hgw2 hbw0 g1 g2 g3 g4 g5;have hlk2:=hlk.out.next g1;rw [show lft=len - (j+1) by omega] at hlk2;obtain ⟨W9,hW9⟩:∃W9,W9=w6.setCell ⟨y0.heap.size+1,5,none⟩ (.slice a31 (lj.length+1) c31):=⟨_,rfl⟩;rw [<-hW9] at hnx ⊢;replace hW9:=Hd hW9;replace hnx:=Hd hnx;replace hlk2:=Hd hlk2;clear g1 g2 g3 g4 g5;simp only [Al,Act.put,List.setIfInBounds_toArray,List.set_cons_zero,List.set_cons_succ];go_wp2_with fail
         go_roundw
         case rel=>exact ⟨j+1,uj+u1,m,lj++[x],_,css++[cs],by omega,by first | rfl | go_num,by simp [hlj],hnx.out,hlk2.out⟩
         case measure=>simp [intOf];omega
     · have hlti:¬(j:Int)<(len:Int):=by omega
       have hje:len - j=0:=by omega
       rw [hje] at hlk;have hre:=hlk.last;have hre2:=Hd hre;obtain ⟨a3,c3,rfl⟩:=(Reads.of_owns hls.own).shape;have hrv:=RV.of_row (v:=.mk kk ⟨#[]⟩ 0 0 false lj) rfl hls.own (hls.vals.mono nf_newer);have htC:=At (n:=6) hls.zero hls.blk rfl;have hrR:(wr.setCells y0.heap.size 0 [.int .i64 kk,.string ⟨#[]⟩,.int .i64 0,.float .f64 0,.bool false,.slice a3 lj.length c3]).rangeAt y0.heap.size 0 [.int .i64 kk,.string ⟨#[]⟩,.int .i64 0,.float .f64 0,.bool false,.slice a3 lj.length c3]:=World.rangeAt_setCells_same _ _ _ _ htC;have hfw:Fr (fun k=>k=y0.heap.size) wr (wr.setCells y0.heap.size 0 [.int .i64 kk,.string ⟨#[]⟩,.int .i64 0,.float .f64 0,.bool false,.slice a3 lj.length c3]):=Fr.setCells (S:=fun k=>k=y0.heap.size) (fun _=>rfl) _ _ _ (Fr.refl _ _);have hff:=Hd (hls.fr.trans_new hfw (fun i hi e=>by omega));have hbw:b<y0.heap.size:=hbw0;have hful:=Hd (hls.full)
       have hrs:RS rp w0 (wr.setCells y0.heap.size 0 [.int .i64 kk,.string ⟨#[]⟩,.int .i64 0,.float .f64 0,.bool false,.slice a3 lj.length c3]) g b o n cap s (at_+uj) mj:=⟨hls.rs.scan.fr hfw (by omega) (by omega),hls.rs.env,hls.rs.below.trans (hfw.below hls.rs.below.size (fun i hi e=>by have:=h.out.below.size;omega)),hls.rs.base,hls.rs.le⟩;have hrv2:=Hd (hrv.mono (Fl hfw));replace htC:=Hd htC;replace hrR:=Hd hrR;replace hrs:=Hd hrs;clear hfw hrv hls hlk hre;go_upto_region 9 with fail
       refine wp_region_lit ?_;refine wpList_load_mid rfl 40 _ rfl (y0.heap.size+1) 0 rfl _ _ hful.out Tryz.underlying40 rfl Ai ?_;refine wpList_store_mid rfl 40 _ _ rfl y0.heap.size 0 _ rfl rfl htC.out Ai (one6 _ _ _ _ _ _ _ _) ?_;simp only [Act.put,List.setIfInBounds_toArray,List.set_cons_zero,List.set_cons_succ,wpList];generalize hW9:wr.setCells y0.heap.size 0 #[Value.int .i64 kk,.string ⟨#[]⟩,.int .i64 0,.float .f64 0,.bool false,.slice a3 lj.length c3].toList=W9;replace hrR:=hrR.out;replace hff:=hff.out;replace hrs:=hrs.out;replace hrv2:=hrv2.out;rw [show wr.setCells y0.heap.size 0 [Value.int .i64 kk,.string ⟨#[]⟩,.int .i64 0,.float .f64 0,.bool false,.slice a3 lj.length c3]=W9 from hW9] at hrR hff hrs hrv2;replace hrR:=Hd hrR;replace hff:=Hd hff;replace hrs:=Hd hrs;replace hrv2:=Hd hrv2;replace hW9:=Hd hW9;go_wp2_with fail
       refine bodyPost_ret (Ax (v:=.agg #[.int .i64 kk,.string ⟨#[]⟩,.int .i64 0,.float .f64 0,.bool false,.slice a3 lj.length c3]) rfl rfl (run_loadVar_mid (P:=Tryz.prog) _ _ 0 40 _ _ hrR.out Tryz.underlying40 rfl Ai)) rfl ?_;rw [hre2.out];exact ⟨a3,c3,rfl,hrv2.out,hff.out,hrs.out⟩
end R2.R3
end Go.Proofs.YtfaihaoajdcjbaaGreatDoor
