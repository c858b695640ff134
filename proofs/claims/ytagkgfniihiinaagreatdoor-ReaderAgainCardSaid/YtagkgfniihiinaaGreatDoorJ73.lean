/- The reader: lists. -/
import Derived.Test.YtagkgfniihiinaaGreatDoorJ83
import Derived.Test.YtagkgfniihiinaaGreatDoorJ70
set_option linter.all false
namespace Go.Proofs.YtagkgfniihiinaaGreatDoor
open Go.RowKit
def VAt (rp:Rp) (w0:World) (g b o n cap:Nat) (s:ByteArray) (at2:Nat) (out:Out (V × Nat × Nat)) (wr:World) (v:Value) (w:World):Prop:=
 ∃(x:V) (u m:Nat) (a:Option Addr) (ca:Nat),out=.got (x,u,m)/\v=.agg #[.int .i64 x.kind,.string x.text,.int .i64 x.int,.float .f64 x.real,.bool x.flag,.slice a x.list.length ca] /\
   RV (Bf wr.heap.size w) (At x.kind x.text x.int x.real x.flag a x.list.length ca) x/\Fr (fun k=>k=g) wr w/\RS rp w0 w g b o n cap s (at2+u) m
def VSl (rp:Rp) (w0:World) (g b o n cap:Nat) (s:ByteArray) (at2:Nat) (out:Out (V × Nat × Nat)) (wr:World) (v:Value) (w:World):Prop:=
 ∃(x:V) (u m:Nat) (a:Option Addr) (ca bl:Nat),out=.got (x,u,m)/\v=.slice (some ⟨bl,0,none⟩) 1 1/\w.heap[bl]?=some (.cells #[.int .i64 x.kind,.string x.text,.int .i64 x.int,.float .f64 x.real,.bool x.flag,.slice a x.list.length ca] 26 (0,0)) /\
   RV (Bf wr.heap.size w) (At x.kind x.text x.int x.real x.flag a x.list.length ca) x/\Fr (fun k=>k=g) wr w/\RS rp w0 w g b o n cap s (at2+u) m
def VAp (rp:Rp) (w0:World) (g b o n cap:Nat) (s:ByteArray) (at2:Nat) (out:Out (V × Nat × Nat)) (wr:World) (B:Nat) (lv:Value) (css:List (List Value)) (lj:List V) (v:Value) (w:World):Prop:=
 ∃(x:V) (u m:Nat) (cs:List Value),out=.got (x,u,m)/\w.ownsRow B 26 6 v (lj.length+1) (css++[cs]).flatten/\RVs (nf B v.ownBlock w) (css++[cs]) (lj++[x]) /\
   Fr (fun k=>k=g\/lv.ownBlock=some k) wr w/\RS rp w0 w g b o n cap s (at2+u) m
def lqR (g:Nat) (i:Nat) (w w' : World):Prop:=match i with
 | 5=>Fr (fun k=>k=g) w w'
 | 6=>Below w.heap.size w w'
 | 7=>True
 | 9=>True
 | _=>w' = w
def LI (g:Nat) (wr:World) (q:Bool) (w:World):Prop:=match q with
 | true=>w=wr.drew
 | false=>Fr (fun k=>k=g) wr w
def LF (q:Bool):List Nat:=match q with
 | true=>[5,6,7,9]
 | false=>[7,9]
theorem nf_fr {B g:Nat} {own:Option Nat} {w w' : World} (hf:Fr (fun k=>k=g) w w') (hg:g<B):∀a u,nf B own w a=some u->nf B own w' a=some u:=fun a u h=>by
 obtain ⟨h1,h2,h3⟩:=nf_cell h;exact nf_mk (hf.cell h1 (fun e=>by omega)) h2 h3
theorem RS.fr {rp:Rp} {w0 w w' : World} {g b o n cap at_ many:Nat} {s:ByteArray} (h:RS rp w0 w g b o n cap s at_ many) {S:Nat->Prop} (hf:Fr S w w') (hg:¬S g) (hb:¬S b) (hS:∀i,S i->w0.heap.size<=i):RS rp w0 w' g b o n cap s at_ many:=
 ⟨h.scan.fr hf hg hb,h.env,h.below.trans (hf.below h.below.size (fun i hi e=>by have:=hS i e;omega)),h.base,h.le⟩
theorem reads_blockR {w:World} {b size:Nat} {us:Array Value} {t:TypeId} (h:w.heap[b]?=some (.cells us t (0,0))) (hs:us.size=size):Reads w size (.slice (some ⟨b,0,none⟩) 1 1) 1 us.toList:=
 ⟨_,_,rfl,by simp [hs],fun j u hj=>⟨b,0,rfl,by simp [World.cell?,h];simpa using hj⟩⟩
theorem ls_next {rp:Rp} {w0 w wr w6:World} {g b o n cap:Nat} {s:ByteArray} {kk:Int} {at_ uj mj:Nat} {a3 a31:Option Addr} {c3 c31:Nat} {css:List (List Value)} {lj:List V} {f:Nat->List UInt8->Out (V × Nat × Nat)} {x:V} {u1 m:Nat} {cs:List Value}
   (hls:LS rp w0 w wr g b o n cap s kk at_ uj mj (.slice a3 lj.length c3) css lj) (hfm:Hid (∀(m:Nat) (L:List UInt8) (v:V) (u m' : Nat),m<=1000->f m L=.got (v,u,m')->m' <= 1000)) (hg5:¬w.heap.size+1=g) (hgw:g<w.heap.size) (hbw:b<w.heap.size)
   (g1:f mj (s.data.toList.drop (at_+uj))=.got (x,u1,m)) (g2:w6.ownsRow (w.heap.size+2) 26 6 (.slice a31 (lj.length+1) c31) (lj.length+1) (css++[cs]).flatten) (g3:RVs (nf (w.heap.size+2) (Value.slice a31 (lj.length+1) c31).ownBlock w6) (css++[cs]) (lj++[x]))
   (g4:Fr (fun k=>k=g\/(Value.slice a3 lj.length c3).ownBlock=some k) wr w6) (g5:RS rp w0 w6 g b o n cap s (at_+uj+u1) m) :
   LS rp w0 w (w6.setCell ⟨w.heap.size+1,5,none⟩ (.slice a31 (lj.length+1) c31)) g b o n cap s kk at_ (uj+u1) m (.slice a31 (lj.length+1) c31) (css++[cs]) (lj++[x]):=by
 have hl1:(lj++[x]).length=lj.length+1:=by simp
 have hfs:Fr (fun k=>k=w.heap.size+1) w6 (w6.setCell ⟨w.heap.size+1,5,none⟩ (.slice a31 (lj.length+1) c31)):=Fr.setCell (S:=fun k=>k=w.heap.size+1) (Fr.refl _ _) (fun _=>rfl) _
 have hob:∀k,(Value.slice a3 lj.length c3).ownBlock=some k->w.heap.size+2<=k:=fun k hk=>(A1 hls.own k hk).1
 have hn1:¬(w.heap.size+1=g\/(Value.slice a3 lj.length c3).ownBlock=some (w.heap.size+1)):=fun e=>by
   rcases e with e | e
   · omega
   · have:=hob _ e;omega
 have hn0:¬(w.heap.size=g\/(Value.slice a3 lj.length c3).ownBlock=some w.heap.size):=fun e=>by
   rcases e with e | e
   · omega
   · have:=hob _ e;omega
 have hb1:=hls.blk1.fr g4 hn1
 have k1:∀j u,wr.cell? ⟨w.heap.size+1,j,none⟩=some u->j≠5->(w6.setCell ⟨w.heap.size+1,5,none⟩ (.slice a31 (lj.length+1) c31)).cell? ⟨w.heap.size+1,j,none⟩=some u:=fun j u hu hj=>by
   rw [Ab (fun e=>hj (congrArg Addr.off e).symm)];exact g4.cell hu hn1
 refine ⟨?_,hfm.out mj _ x u1 m hls.many g1,?_,g3.mono (nf_fr hfs (by omega)),?_,?_,(hls.blk.fr g4 hn0).setCell _ _,hb1.setCell _ _,?_,?_⟩
 · rw [<-Nat.add_assoc]
   exact g5.fr hfs (fun e=>hg5 e.symm) (fun e=>by omega) (fun i e=>by have:=hls.rs.base;omega)
 · rw [hl1]
   exact owns_fr g2 hfs (fun k hk e=>by have:=(A1 g2 k hk).1;omega)
 · refine range6 (k1 _ _ (by simpa using hls.full 0 _ rfl) (by omega)) (k1 _ _ (by simpa using hls.full 1 _ rfl) (by omega)) (k1 _ _ (by simpa using hls.full 2 _ rfl) (by omega)) (k1 _ _ (by simpa using hls.full 3 _ rfl) (by omega)) (k1 _ _ (by simpa using hls.full 4 _ rfl) (by omega)) ?_
   exact Al (g4.cell (p:=⟨w.heap.size+1,5,none⟩) (hls.full 5 _ rfl) hn1)
 · intro q u hq
   exact hfs.cell (g4.cell (hls.zero q u hq) hn0) (by show ¬w.heap.size=w.heap.size+1;omega)
 · refine hls.fr.trans_new (Fr.trans (g4.mono (fun _ _ e=>Or.inl e)) (hfs.mono (fun _ _ e=>Or.inr e)):Fr (fun k=>(k=g\/(Value.slice a3 lj.length c3).ownBlock=some k)\/k=w.heap.size+1) wr _) (fun i hi e=>?_)
   rcases e with (e | e) | e
   · exact e
   · have:=hob _ e;omega
   · omega
 · have:=hfs.size;have:=g4.size;have:=hls.size;omega
def LZ (y0:World) (g:Nat) (f:Nat->List UInt8->Out (V × Nat × Nat)) (res:Out (List V × Nat × Nat)) (mj:Nat) (L:List UInt8) (c:List PanicEntry) (w:World):Prop:=
 ∃q,f mj L=.stop q/\Ending.panicked c=B8 q/\Fr (fun k=>k=g) y0 w
def ListQ (rp:Rp) (w0:World) (g b o n cap:Nat) (s:ByteArray) (kk:Int) (at_:Nat) (res:Out (List V × Nat × Nat)) (w:World) (e:Ending) (w' : World):Prop:=
 match res with
 | .stop q=>e=B8 q/\Fr (fun k=>k=g) w w'
 | .got (l,u,m)=>∃(a:Option Addr) (ca:Nat),e=.returned (.agg #[.int .i64 kk,.string ⟨#[]⟩,.int .i64 0,.float .f64 0,.bool false,.slice a l.length ca]) /\
     RV (Bf w.heap.size w') (At kk ⟨#[]⟩ 0 0 false a l.length ca) (.mk kk ⟨#[]⟩ 0 0 false l)/\Fr (fun k=>k=g) w w' /\ RS rp w0 w' g b o n cap s (at_+u) m
theorem newer_fr {B x:Nat} {w w' : World} (hf:Fr (fun k=>k=x) w w') (hx:x<B:=by omega):∀a u,Bf B w a=some u->Bf x w' a=some u:=fun a u h=>by
 obtain ⟨h1,h2⟩:=Dt h;unfold Bf;rw [if_neg (by omega)];exact hf.cell h1 (fun e=>by omega)
namespace R2.R3
set_option maxRecDepth 100000 in
set_option maxHeartbeats 6400000 in
theorem list_any {rp:Rp} {w0 y0:World} {g b o n cap at_ many len:Nat} {s:ByteArray} {d kk:Int} {need:Nat->List UInt8->Prop} {f:Nat->List UInt8->Out (V × Nat × Nat)} (h:RS rp w0 y0 g b o n cap s at_ many) (hbw0:b<y0.heap.size) (hm:many+len<=1000) (hd0:0<=d) (hd:d<8) (hk:¬(kk=14/\(len=0\/0<d)))
   (hval:∀(W:World) (at2 m2:Nat),RS rp w0 W g b o n cap s at2 m2->m2<=1000->need m2 (s.data.toList.drop at2)->Calls Tryz.prog 46 #[.pointer (some ⟨g,0,none⟩),.int .i64 (d+1)] W (ValQ rp w0 g b o n cap s at2 (f m2 (s.data.toList.drop at2)) W))
   (hfm:∀(m:Nat) (L:List UInt8) (v:V) (u m' : Nat),m<=1000->f m L=.got (v,u,m')->m' <= 1000)
   (hnd:needN need f len (many+len) (s.data.toList.drop at_)) :
   Calls Tryz.prog 70 #[.pointer (some ⟨g,0,none⟩),.int .i64 kk,.int .i64 (len:Int),.int .i64 d] y0 (ListQ rp w0 g b o n cap s kk at_ (Be f len (many+len) (s.data.toList.drop at_)) y0):=by
 obtain ⟨W1,hW1⟩:∃W1,W1=(y0.alloc (.cells #[.int .i64 0,.string ⟨#[]⟩,.int .i64 0,.float .f64 0,.bool false,.slice none 0 0] 26)).alloc (.cells #[.int .i64 kk,.string ⟨#[]⟩,.int .i64 0,.float .f64 0,.bool false,.slice none 0 0] 26):=⟨_,rfl⟩
 have hT:=Two.start y0 kk ⟨#[]⟩ 0 0 false
 rw [<-hW1] at hT
 have hs1:W1.heap.size=y0.heap.size+2:=by rw [hW1];simp
 have h1:=h.grow hT.below
 have c2:=h1.scan.c2
 have fz:=h1.scan.blk.frz 2 none
 have hgw:g<y0.heap.size:=h.scan.blk.lt
 have y1:¬(1000:Int)<(many:Int)+(len:Int):=by omega
 have y2:¬8<=d:=by omega
 have hlinks:=Links.start (f:=f) (D:=s.data.toList) (at_:=at_) (n:=len) (m:=many+len) hnd
 clear hnd
 obtain ⟨res,hres⟩:∃res,res=Be f len (many+len) (s.data.toList.drop at_):=⟨_,rfl⟩
 rw [<-hres] at hlinks ⊢
 have hf2:Fr (fun k=>k=g) y0 (W1.setCell ⟨g,2,none⟩ (.int .i64 ((many:Int)+(len:Int)))):=Fr.setCell (S:=fun k=>k=g) (Ag hT.below) (fun _=>rfl) _
 have hLS:LS rp w0 y0 (W1.setCell ⟨g,2,none⟩ (.int .i64 ((many:Int)+(len:Int)))) g b o n cap s kk at_ 0 (many+len) (.slice none 0 0) [] []:=by
   have hfr1:Fr (fun k=>k=g) W1 (W1.setCell ⟨g,2,none⟩ (.int .i64 ((many:Int)+(len:Int)))):=Fr.setCell (S:=fun k=>k=g) (Fr.refl _ _) (fun _=>rfl) _;refine ⟨?_,hm,World.ownsRow_nil _ _ _ _,RVs.nil _,fun q x hq=>hfr1.cell (hT.full q x hq) (by show ¬y0.heap.size+1=g;omega),fun q x hq=>hfr1.cell (hT.zero q x hq) (by show ¬y0.heap.size=g;omega),hT.blk.fr hfr1 (by omega),hT.blk1.fr hfr1 (by omega),hf2,?_⟩
   · have:=h1.scan.count (many+len)
     rw [show ((many+len:Nat):Int)=(many:Int)+(len:Int) by omega] at this;exact h1.next hfr1 (by simpa using this) (by simpa using h1.le)
   · have:=hfr1.size;omega
 generalize hW2:W1.setCell ⟨g,2,none⟩ (.int .i64 ((many:Int)+(len:Int)))=W2 at hLS hf2
 replace hW2:=Hd hW2
 replace hW1:=Hd hW1
 replace hT:=Hd hT
 replace h1:=Hd h1
 replace h:=Hd h
 replace hlinks:=Hd hlinks
 replace hres:=Hd hres
 replace hLS:=Hd hLS
 replace hval:=Hd hval
 replace hfm:=Hd hfm
 replace hf2:=Hd hf2
 clear hs1
 have hk3:(kk == 14)=false\/(kk == 14)=true/\((len:Int) == 0)=false/\¬0<d:=by
   by_cases h14:kk=14
   · right
     have:¬(len=0\/0<d):=fun hh=>hk ⟨h14,hh⟩;exact ⟨by simpa using h14,by simp;omega,by omega⟩
   · left;simpa using h14
 replace hk:=Hd hk
 have hcl:∀(x y z:Bool),((x=false)\/(y=false/\z=false))->(x && (y || z))=false:=by decide
 go_enter Tryz.func70,Tryz.ntmps70
 go_upto_region 2 with fail
 rw [<-hW1.out]
 rcases hk3 with hk3 | ⟨hk3,hk4,hk5⟩
 all_goals
   go_wp2_with fail
   rw [hW2.out]
   go_loopw [43] (fun i wr=>∃(j uj mj:Nat) (lj:List V) (lv:Value) (css:List (List Value)),j<=len/\i=.int .i64 j/\lj.length=j/\LS rp w0 y0 wr g b o n cap s kk at_ uj mj lv css lj/\Links need f res s.data.toList at_ (len - j) uj mj lj) (fun i _=>len - (intOf i).toNat)
   case atStart=>exact ⟨0,0,many+len,[],_,[],Nat.zero_le _,rfl,rfl,hLS.out,hlinks.out⟩
   case round=>
     obtain ⟨j,uj,mj,lj,lv,css,hj,rfl,hlj,hls,hlk⟩:=hrel;have hgw2:g<y0.heap.size:=hgw;by_cases hlt:j<len
     · obtain ⟨a3,c3,rfl⟩:=(Reads.of_owns hls.own).shape
       obtain ⟨lft,hlf⟩:∃lft,len - j=lft+1:=⟨len - j - 1,by omega⟩;rw [hlf] at hlk;have hlti:(j:Int)<(len:Int):=by omega
       have hw1:IntKind.i64.wrap (d+1)=d+1:=IntWalk.i64_in _ (by omega);have hw2:IntKind.i64.wrap ((j:Int)+1)=((j+1:Nat):Int):=by rw [IntWalk.i64_in _ (by omega)];rfl
       have hlm:=hls.many;have hg5:¬y0.heap.size+1=g:=by omega
       replace hls:=Hd hls;replace hlk:=Hd hlk;go_upto_region 7 with fail
       refine wp_region_rely (l:=[_,_,_,_,_,_,_,_,_,_]) (LZ y0 g f res mj (s.data.toList.drop (at_+uj))) ?_ (fun _=>True) (LI g wr) (lqR g) (fun kG_=>([fun v _=>v=.pointer (some ⟨y0.heap.size+1,5,none⟩),fun v _=>v=.slice a3 lj.length c3,fun v _=>v=.pointer (some ⟨g,0,none⟩),fun v _=>v=.int .i64 d,fun v _=>v=.int .i64 (d+1),fun v w=>VAt rp w0 g b o n cap s (at_+uj) (f mj (s.data.toList.drop (at_+uj))) wr v w,fun v w=>VSl rp w0 g b o n cap s (at_+uj) (f mj (s.data.toList.drop (at_+uj))) wr v w,fun v w=>VAp rp w0 g b o n cap s (at_+uj) (f mj (s.data.toList.drop (at_+uj))) wr (y0.heap.size+2) (.slice a3 lj.length c3) css lj v w,fun v _=>v=.pointer (some ⟨y0.heap.size+1,5,none⟩),fun v w=>∃(v1:Value) (w1:World),w=w1.setCell ⟨y0.heap.size+1,5,none⟩ v1/\VAp rp w0 g b o n cap s (at_+uj) (f mj (s.data.toList.drop (at_+uj))) wr (y0.heap.size+2) (.slice a3 lj.length c3) css lj v1 w1]:List (Value->World->Prop)).getD kG_ (fun _ _=>True)) (eats [(6,5),(7,6),(9,7)]) (fun q=>isIn (LF q)) (by kernel_rfl) (by kernel_rfl) (by kernel_rfl) trivial ?_ ?_ ?_ ?_ ?_
       · intro c aq x1 hd hz
         obtain ⟨q,h1,h2,h3⟩:=hz;show aq.defers=[]/\ListQ rp w0 g b o n cap s kk at_ res y0 (.panicked c) x1;refine ⟨hd,?_⟩;rw [hlk.out.stop h1];exact ⟨h2,h3⟩
       · intro q
         cases q
         · exact (Fr.refl _ _).drew
         · exact rfl
       · intro i kG_ u w w' hne hE hg hr
         rcases kG_ with _ | _ | _ | _ | _ | _ | _ | _ | _ | _ | kG_
         · exact hg
         · exact hg
         · exact hg
         · exact hg
         · exact hg
         · replace hg:(fun (v:Value) (w:World)=>VAt rp w0 g b o n cap s (at_+uj) (f mj (s.data.toList.drop (at_+uj))) wr v w) u w:=hg
           show (fun (v:Value) (w:World)=>VAt rp w0 g b o n cap s (at_+uj) (f mj (s.data.toList.drop (at_+uj))) wr v w) u w';dsimp only at hg ⊢;replace hE:exB _ _ i 5=false:=hE;replace hne:5≠i:=hne;unfold lqR at hr;split at hr
           all_goals first
             | exact absurd rfl hne
             | exact absurd (hE.symm.trans (by decide +kernel:exB _ _ _ _=true)) (by decide)
             | (subst hr;exact hg)
             | (fail)
         · replace hg:(fun (v:Value) (w:World)=>VSl rp w0 g b o n cap s (at_+uj) (f mj (s.data.toList.drop (at_+uj))) wr v w) u w:=hg
           show (fun (v:Value) (w:World)=>VSl rp w0 g b o n cap s (at_+uj) (f mj (s.data.toList.drop (at_+uj))) wr v w) u w';dsimp only at hg ⊢;replace hE:exB _ _ i 6=false:=hE;replace hne:6≠i:=hne;unfold lqR at hr;split at hr
           all_goals first
             | exact absurd rfl hne
             | exact absurd (hE.symm.trans (by decide +kernel:exB _ _ _ _=true)) (by decide)
             | (subst hr;exact hg)
             | (fail)
         · replace hg:(fun (v:Value) (w:World)=>VAp rp w0 g b o n cap s (at_+uj) (f mj (s.data.toList.drop (at_+uj))) wr (y0.heap.size+2) (.slice a3 lj.length c3) css lj v w) u w:=hg
           show (fun (v:Value) (w:World)=>VAp rp w0 g b o n cap s (at_+uj) (f mj (s.data.toList.drop (at_+uj))) wr (y0.heap.size+2) (.slice a3 lj.length c3) css lj v w) u w';dsimp only at hg ⊢;replace hE:exB _ _ i 7=false:=hE;replace hne:7≠i:=hne;unfold lqR at hr;split at hr
           all_goals first
             | exact absurd rfl hne
             | exact absurd (hE.symm.trans (by decide +kernel:exB _ _ _ _=true)) (by decide)
             | (subst hr;exact hg)
             | (fail)
         · exact hg
         · replace hg:(fun (v:Value) (w:World)=>∃(v1:Value) (w1:World),w=w1.setCell ⟨y0.heap.size+1,5,none⟩ v1/\VAp rp w0 g b o n cap s (at_+uj) (f mj (s.data.toList.drop (at_+uj))) wr (y0.heap.size+2) (.slice a3 lj.length c3) css lj v1 w1) u w:=hg
           show (fun (v:Value) (w:World)=>∃(v1:Value) (w1:World),w=w1.setCell ⟨y0.heap.size+1,5,none⟩ v1/\VAp rp w0 g b o n cap s (at_+uj) (f mj (s.data.toList.drop (at_+uj))) wr (y0.heap.size+2) (.slice a3 lj.length c3) css lj v1 w1) u w';dsimp only at hg ⊢;replace hE:exB _ _ i 9=false:=hE;replace hne:9≠i:=hne;unfold lqR at hr;split at hr
           all_goals first
             | exact absurd rfl hne
             | exact absurd (hE.symm.trans (by decide +kernel:exB _ _ _ _=true)) (by decide)
             | (subst hr;exact hg)
             | (fail)
         · trivial
       · intro q i x1 x2 hF hI hr
         unfold lqR at hr;split at hr
         · cases q
           · exact Fr.trans hI hr
           · exact absurd hF (by decide)
         · cases q
           · exact Fr.trans hI (Ag hr)
           · exact absurd hF (by decide)
         · cases q<;>exact absurd hF (by decide)
         · cases q<;>exact absurd hF (by decide)
         · subst hr;exact hI
       · refine ⟨?_,?_,?_,?_,?_,?_,?_,?_,?_,?_,trivial⟩
         · refine VC.plain rfl fun a wx hf=>?_
           have s9:=hf.old 9 (by first | rfl | kernel_rfl);have q9:=Bs s9;exact gives_value (by simp [go_sem,q9,hw1]) ⟨hf.c,rfl,rfl⟩
         · refine VC.plain rfl fun a wx hf=>?_
           obtain ⟨v45,g45,s45⟩:=hf.got 0 (by kernel_rfl) (by intro j hj;simp [eats] at hj) rfl rfl;replace s45:=s45.trans (show v45=.pointer (some ⟨y0.heap.size+1,5,none⟩) from g45);clear g45;have q45:=Bs s45;have hI:=hf.start false (by kernel_rfl);have hc5:=Fr.cell (p:=⟨y0.heap.size+1,5,none⟩) hI (hls.out.full 5 _ rfl) hg5;exact gives_value (by simp [go_sem,q45,hc5]) ⟨trivial,rfl,rfl⟩
         · refine VC.plain rfl fun a wx hf=>?_
           have s0:=hf.old 0 (by first | rfl | kernel_rfl);have q0:=Bs s0;exact gives_value (by simp [go_sem,q0,hw1]) ⟨hf.c,rfl,rfl⟩
         · refine VC.plain rfl fun a wx hf=>?_
           have s3:=hf.old 3 (by first | rfl | kernel_rfl);have q3:=Bs s3;exact gives_value (by simp [go_sem,q3,hw1]) ⟨hf.c,rfl,rfl⟩
         · refine VC.plain rfl fun a wx hf=>?_
           obtain ⟨v48,g48,s48⟩:=hf.got 3 (by kernel_rfl) (by intro j hj;simp [eats] at hj) rfl rfl;replace s48:=s48.trans (show v48=.int .i64 d from g48);clear g48;have q48:=Bs s48;exact gives_value (by simp [go_sem,q48,hw1]) ⟨hf.c,rfl,rfl⟩
         · refine VC.plain rfl fun a wx hf=>?_
           obtain ⟨v47,g47,s47⟩:=hf.got 2 (by kernel_rfl) (by intro j hj;simp [eats] at hj) rfl rfl;replace s47:=s47.trans (show v47=.pointer (some ⟨g,0,none⟩) from g47);clear g47;have q47:=Bs s47;obtain ⟨v49,g49,s49⟩:=hf.got 4 (by kernel_rfl) (by intro j hj;simp [eats] at hj) rfl rfl;replace s49:=s49.trans (show v49=.int .i64 (d+1) from g49);clear g49;have q49:=Bs s49;have hI:=hf.start true (by kernel_rfl);replace hI:wx=wr.drew:=hI;subst hI;refine gives_callZ (f:=46) (args:=#[.pointer (some ⟨g,0,none⟩),.int .i64 (d+1)]) (w' := wr.drew) (by simp [go_sem,q47,q49]) ?_;refine (hval.out wr.drew (at_+uj) mj (hls.out.rs.grow ((Below.refl _ _).drew)) hlm hlk.out.need).mono fun e x1 he=>?_;unfold ValQ at he;cases hfo:f mj (s.data.toList.drop (at_+uj)) with
           | stop q=>
             rw [hfo] at he;obtain ⟨he,hfr⟩:=he;have hfw:=Fr.trans hls.out.fr (Fr.trans ((Fr.refl (fun k=>k=g) wr).drew) hfr);exact .inr ⟨_,he,q,hfo,rfl,hfw⟩
           | got r=>
             obtain ⟨x,u1,m⟩:=r;rw [hfo] at he;obtain ⟨ad1,ca1,he,hrv,hfr,hrs⟩:=he;exact .inl ⟨_,he,trivial,hfr,x,u1,m,ad1,ca1,rfl,rfl,hrv,Fr.trans ((Fr.refl (fun k=>k=g) wr).drew) hfr,hrs⟩
         · refine VC.plain rfl fun a wx hf=>?_
           obtain ⟨v50,g50,s50⟩:=hf.got 5 (by kernel_rfl) (by intro j hj;simp [eats] at hj;omega) rfl rfl;have q50:=Bs s50;replace g50:(fun (v:Value) (w:World)=>VAt rp w0 g b o n cap s (at_+uj) (f mj (s.data.toList.drop (at_+uj))) wr v w) v50 wx:=g50;dsimp only at g50;obtain ⟨x,u1,m,ad1,ca1,g1,g2,g3,g4,g5⟩:=g50;subst g2;refine gives_value (u:=.slice (some ⟨wx.heap.size,0,none⟩) 1 1) (w' := wx.alloc (.cells #[.int .i64 x.kind,.string x.text,.int .i64 x.int,.float .f64 x.real,.bool x.flag,.slice ad1 x.list.length ca1] 26)) (by simp [go_sem,q50,Tryz.underlying24]) ⟨trivial,(Below.refl _ _).alloc (Nat.le_refl _) _,?_⟩;have hal:=(Below.refl wx.heap.size wx).alloc (Nat.le_refl _) (.cells #[.int .i64 x.kind,.string x.text,.int .i64 x.int,.float .f64 x.real,.bool x.flag,.slice ad1 x.list.length ca1] 26)
           exact ⟨x,u1,m,ad1,ca1,wx.heap.size,g1,rfl,(MapKept.heap_alloc wx _).1,g3.mono (newer_below hal),Fr.trans g4 (Ag hal),g5.grow hal⟩
         · refine VC.plain rfl fun a wx hf=>?_
           obtain ⟨v46,g46,s46⟩:=hf.got 1 (by kernel_rfl) (by intro j hj;simp [eats] at hj) rfl rfl;replace s46:=s46.trans (show v46=.slice a3 lj.length c3 from g46);clear g46;have q46:=Bs s46;obtain ⟨v51,g51,s51⟩:=hf.got 6 (by kernel_rfl) (by intro j hj;simp [eats] at hj;omega) rfl rfl;have q51:=Bs s51;replace g51:(fun (v:Value) (w:World)=>VSl rp w0 g b o n cap s (at_+uj) (f mj (s.data.toList.drop (at_+uj))) wr v w) v51 wx:=g51;dsimp only at g51;obtain ⟨x,u1,m,ad1,ca1,bl,g1,rfl,g2,g3,g4,g5⟩:=g51;have hown1:=owns_fr hls.out.own g4 (fun k hk hle=>by have:=(A1 hls.out.own k hk).1;omega);have hvs1:RVs (nf (y0.heap.size+2) (Value.slice a3 lj.length c3).ownBlock wx) css lj:=hls.out.vals.mono (nf_fr g4 (by omega))
           have hx1:RV (nf (y0.heap.size+2) (Value.slice a3 lj.length c3).ownBlock wx) (At x.kind x.text x.int x.real x.flag ad1 x.list.length ca1) x:=g3.mono (nf_of_newer hls.out.size (fun k hk=>(A1 hls.out.own k hk).2));have hll:=hlj.symm;refine givesZ_of (Go.Proofs.YtagkgfniihiinaaGreatDoor.gives_append rfl eVal s46 hown1 s51 (reads_blockR g2 rfl) (fun h=>by cases h) (by simp [Value.oneCell']) (by omega) (by have:=g4.size;have:=hls.out.size;omega) (fun v' w' h1 h2 h3=>?_));refine ⟨trivial,trivial,x,u1,m,At x.kind x.text x.int x.real x.flag ad1 x.list.length ca1,g1,?_,((hvs1.snoc hx1).mono (nf_append h2 h3)),?_,g5.fr h2 ?_ ?_ ?_⟩
           · rw [List.flatten_append];simpa [At] using h1
           · exact Fr.trans (g4.mono (fun _ _ h=>Or.inl h)) (h2.mono (fun _ _ h=>Or.inr h))
           · intro e;have:=(A1 hls.out.own g e).1;omega
           · intro e;have:=(A1 hls.out.own b e).1;omega
           · intro i e;have:=(A1 hls.out.own i e).1;have:=g5.base;omega
         · refine VC.plain rfl fun a wx hf=>?_
           have s9:=hf.old 9 (by first | rfl | kernel_rfl);have q9:=Bs s9;exact gives_value (by simp [go_sem,q9,hw1]) ⟨hf.c,rfl,rfl⟩
         · refine VC.plain rfl fun a wx hf=>?_
           obtain ⟨v53,g53,s53⟩:=hf.got 8 (by kernel_rfl) (by intro j hj;simp [eats] at hj) rfl rfl;replace s53:=s53.trans (show v53=.pointer (some ⟨y0.heap.size+1,5,none⟩) from g53);clear g53;have q53:=Bs s53;obtain ⟨v52,g52,s52⟩:=hf.got 7 (by kernel_rfl) (by intro j hj;simp [eats] at hj;omega) rfl rfl;have q52:=Bs s52;replace g52:(fun (v:Value) (w:World)=>VAp rp w0 g b o n cap s (at_+uj) (f mj (s.data.toList.drop (at_+uj))) wr (y0.heap.size+2) (.slice a3 lj.length c3) css lj v w) v52 wx:=g52;dsimp only at g52;have h1:=g52;obtain ⟨x,u1,m,cs,g1,g2,g3,g4,g5⟩:=g52;obtain ⟨a31,c31,rfl⟩:=(Reads.of_owns g2).shape;have hne:¬(y0.heap.size+1=g\/(Value.slice a3 lj.length c3).ownBlock=some (y0.heap.size+1)):=fun e=>by
             rcases e with e | e
             · omega
             · have:=(A1 hls.out.own _ e).1;omega
           have hc5:=Fr.cell (p:=⟨y0.heap.size+1,5,none⟩) g4 (hls.out.full 5 _ rfl) hne;exact gives_skip (w' := wx.setCell ⟨y0.heap.size+1,5,none⟩ _) (by simp [go_sem,q53,q52,hc5,(hls.out.blk1.fr g4 hne).frz 5 none]) ⟨trivial,trivial,_,wx,rfl,h1⟩
       · intro vs w5 _ hG
         obtain ⟨v1,w6,e,hx⟩:=hG 9 (by decide) (by decide);clear hG;subst e;obtain ⟨x,u1,m,cs,g1,g2,g3,g4,g5⟩:=hx;obtain ⟨a31,c31,rfl⟩:=(Reads.of_owns g2).shape;have hnx:=ls_next hls.out hfm hg5 hgw2 hbw0 g1 g2 g3 g4 g5;have hlk2:=hlk.out.next g1;rw [show lft=len - (j+1) by omega] at hlk2;obtain ⟨W9,hW9⟩:∃W9,W9=w6.setCell ⟨y0.heap.size+1,5,none⟩ (.slice a31 (lj.length+1) c31):=⟨_,rfl⟩;rw [<-hW9] at hnx ⊢;replace hW9:=Hd hW9;replace hnx:=Hd hnx;replace hlk2:=Hd hlk2;clear g1 g2 g3 g4 g5;simp only [putFrom,Act.put,List.setIfInBounds_toArray,List.set_cons_zero,List.set_cons_succ];go_wp2_with fail
         go_roundw
         case rel=>exact ⟨j+1,uj+u1,m,lj++[x],_,css++[cs],by omega,by first | rfl | go_num,by simp [hlj],hnx.out,hlk2.out⟩
         case measure=>simp [intOf];omega
     · have hlti:¬(j:Int)<(len:Int):=by omega
       have hje:len - j=0:=by omega
       rw [hje] at hlk;have hre:=hlk.last;have hre2:=Hd hre;obtain ⟨a3,c3,rfl⟩:=(Reads.of_owns hls.own).shape;have hrv:=RV.of_row (v:=.mk kk ⟨#[]⟩ 0 0 false lj) rfl hls.own (hls.vals.mono nf_newer);have htC:=Ao (n:=6) hls.zero hls.blk rfl;have hrR:(wr.setCells y0.heap.size 0 [.int .i64 kk,.string ⟨#[]⟩,.int .i64 0,.float .f64 0,.bool false,.slice a3 lj.length c3]).rangeAt y0.heap.size 0 [.int .i64 kk,.string ⟨#[]⟩,.int .i64 0,.float .f64 0,.bool false,.slice a3 lj.length c3]:=World.rangeAt_setCells_same _ _ _ _ htC;have hfw:Fr (fun k=>k=y0.heap.size) wr (wr.setCells y0.heap.size 0 [.int .i64 kk,.string ⟨#[]⟩,.int .i64 0,.float .f64 0,.bool false,.slice a3 lj.length c3]):=Fr.setCells (S:=fun k=>k=y0.heap.size) (fun _=>rfl) _ _ _ (Fr.refl _ _);have hff:=hls.fr.trans_new hfw (fun i hi e=>by omega);have hbw:b<y0.heap.size:=hbw0;have hful:=hls.full
       have hrs:RS rp w0 (wr.setCells y0.heap.size 0 [.int .i64 kk,.string ⟨#[]⟩,.int .i64 0,.float .f64 0,.bool false,.slice a3 lj.length c3]) g b o n cap s (at_+uj) mj:=⟨hls.rs.scan.fr hfw (by omega) (by omega),hls.rs.env,hls.rs.below.trans (hfw.below hls.rs.below.size (fun i hi e=>by have:=h.out.below.size;omega)),hls.rs.base,hls.rs.le⟩;have hrv2:=hrv.mono (newer_fr hfw);replace hrv2:=Hd hrv2;replace htC:=Hd htC;replace hrR:=Hd hrR;replace hff:=Hd hff;replace hrs:=Hd hrs;replace hful:=Hd hful;clear hfw hrv hls hlk hre;go_upto_region 9 with fail
       refine wp_region_lit ?_;refine wpList_load_mid rfl 26 _ rfl (y0.heap.size+1) 0 rfl _ _ hful.out Tryz.underlying26 rfl Ai ?_;refine wpList_store_mid rfl 26 _ _ rfl y0.heap.size 0 _ rfl rfl htC.out Ai (one6 _ _ _ _ _ _ _ _) ?_;simp only [Act.put,List.setIfInBounds_toArray,List.set_cons_zero,List.set_cons_succ,wpList];generalize hW9:wr.setCells y0.heap.size 0 #[Value.int .i64 kk,.string ⟨#[]⟩,.int .i64 0,.float .f64 0,.bool false,.slice a3 lj.length c3].toList=W9;replace hrR:=hrR.out;replace hff:=hff.out;replace hrs:=hrs.out;replace hrv2:=hrv2.out;rw [show wr.setCells y0.heap.size 0 [Value.int .i64 kk,.string ⟨#[]⟩,.int .i64 0,.float .f64 0,.bool false,.slice a3 lj.length c3]=W9 from hW9] at hrR hff hrs hrv2;replace hrR:=Hd hrR;replace hff:=Hd hff;replace hrs:=Hd hrs;replace hrv2:=Hd hrv2;replace hW9:=Hd hW9;go_wp2_with fail
       refine bodyPost_ret (Ap (v:=.agg #[.int .i64 kk,.string ⟨#[]⟩,.int .i64 0,.float .f64 0,.bool false,.slice a3 lj.length c3]) rfl rfl (run_loadVar_mid (P:=Tryz.prog) _ _ 0 26 _ _ hrR.out Tryz.underlying26 rfl Ai)) rfl ?_;rw [hre2.out];exact ⟨a3,c3,rfl,hrv2.out,hff.out,hrs.out⟩
end R2.R3
set_option maxRecDepth 100000 in
set_option maxHeartbeats 6400000 in
theorem Gb {rp:Rp} {w0 w:World} {g b o n cap at_ many u q len N:Nat} {s:ByteArray} {d:Int} {c:UInt8} {t L:List UInt8} (h:RS rp w0 w g b o n cap s at_ many) (hL:s.data.toList.drop at_=c :: L)
   (hk:(Ac c=5/\N=len)\/(Ac c=13/\N=len)\/(Ac c=14/\N=len)\/(Ac c=12/\N=2 * len)) (hl:A7 L=.got (t,u)) (hn:¬(t=[45,49]/\(Ac c=4\/Ac c=5))) (hm:numS t 1000=some len)
   (hcall:∀W,RS rp w0 W g b o n cap s (at_+1+u) many->Calls Tryz.prog 70 #[.pointer (some ⟨g,0,none⟩),.int .i64 (Ac c:Int),.int .i64 (N:Int),.int .i64 d] W fun e w' => e=B8 q/\Fr (fun k=>k=g) W w') :
   Calls Tryz.prog 46 #[.pointer (some ⟨g,0,none⟩),.int .i64 d] w fun e w' => e=B8 q/\Fr (fun k=>k=g) w w' := by
 have hle:len<=1000:=Fq hm
 replace hcall:=Hd hcall
 obtain ⟨kd,hkd⟩:∃kd,kd=Ac c:=⟨_,rfl⟩
 rw [<-hkd] at hk hn
 have hlen:=Df hl
 have hts:(⟨t.toArray⟩:ByteArray).size<=1000000:=by
   rw [Am];show t.length<=_;omega
 have htl:((⟨t.toArray⟩:ByteArray).toList == [45,49])=decide (t=[45,49]):=by
   rw [ByteArray.toList_eq];show (t == [45,49])=_;rw [Bool.eq_iff_iff,beq_iff_eq,decide_eq_true_eq]
 replace hl:=Hd hl
 have hlt:at_<n:=by
   rcases Nat.lt_or_ge at_ n with hh | hh
   · exact hh
   · rw [List.drop_of_length_le (by rw [<-Am,h.scan.size];exact hh)] at hL;cases hL
 have hai:¬(n:Int)<=(at_:Int):=by omega
 have hai2:(at_:Int)<(n:Int):=by omega
 have hbig:=h.scan.big
 obtain ⟨hcel,hL2⟩:w.cell? ⟨b,o+at_,none⟩=some (.int .u8 (c.toNat:Int))/\s.data.toList.drop (at_+1)=L:=by
   have hz:=h.scan.size;have h1:=h.scan.bytes at_ (by omega);have e1:=Lib.data_getElem? s at_ (by omega);have e2:s.data.toList[at_]?=some c:=by
     have:=congrArg (·[0]?) hL
     simp only [List.getElem?_drop,Nat.add_zero] at this;exact this
   rw [e1] at e2;rw [h1,Option.some.inj e2];refine ⟨rfl,?_⟩;rw [<-List.drop_drop,hL];rfl
 have hcb:=World.block_lt_of_cell? _ _ hcel
 replace hcb:b<w.heap.size:=hcb
 replace hL:=Hd hL
 replace hL2:=Hd hL2
 replace hcel:=Hd hcel
 obtain ⟨W1,hW1⟩:∃W1,W1=w.alloc (.cells #[.int .i64 0,.string ⟨#[]⟩,.int .i64 0,.float .f64 0,.bool false,.slice none 0 0] 26):=⟨_,rfl⟩
 have hb1:Below w.heap.size w W1:=by rw [hW1];exact (Below.refl _ _).alloc (Nat.le_refl _) _
 have h1:=h.grow hb1
 have hz1:W1.rangeAt w.heap.size 0 [.int .i64 0,.string ⟨#[]⟩,.int .i64 0,.float .f64 0,.bool false,.slice none 0 0]:=by
   rw [hW1];intro q x hq;rw [Nat.zero_add,World.cell?_alloc_new];simpa using hq
 have hk1:Blk W1 w.heap.size:=by rw [hW1];exact Blk.new _ _ _
 have c0:=h1.scan.c0
 have c1:=h1.scan.c1
 have hgl:g<W1.heap.size:=h1.scan.blk.lt
 have hgw:g<w.heap.size:=h.scan.blk.lt
 replace hW1:=Hd hW1
 replace hb1:=Hd hb1
 replace h1:=Hd h1
 replace hz1:=Hd hz1
 replace hk1:=Hd hk1
 replace h:=Hd h
 go_enter Tryz.func46,Tryz.ntmps46
 go_wp2_with fail
 rw [<-hW1.out]
 refine Ad (by kernel_rfl) (by kernel_rfl) ?_
 repeat (go_big_quiet_step ((fail)))
 refine wpQuiet_nil ?_
 rintro _ ⟨xq,rfl⟩
 have hS:=Ae W1 xq
 obtain ⟨W2,hW2⟩:∃W2,W2=grow W1 xq:=⟨_,rfl⟩
 rw [<-hW2] at hS ⊢
 replace hW2:=Hd hW2
 have h2:=h1.out.grow hS
 have hb2:Below w.heap.size w W2:=hb1.out.trans (hS.mono hb1.out.size)
 have hz2:W2.rangeAt w.heap.size 0 [.int .i64 0,.string ⟨#[]⟩,.int .i64 0,.float .f64 0,.bool false,.slice none 0 0]:=fun q x hq=>by rw [hS.cell (World.block_lt_of_cell? _ _ (hz1.out q x hq))];exact hz1.out q x hq
 have hk2:Blk W2 w.heap.size:=hk1.out.of_block (hS.block _ hk1.out.lt)
 clear c0 c1 hS
 replace h2:=Hd h2
 replace hb2:=Hd hb2
 replace hz2:=Hd hz2
 replace hk2:=Hd hk2
 have c0:=h2.out.scan.c0
 have c1:=h2.out.scan.c1
 have cc:=(hb2.out.cell (p:=⟨b,o+at_,none⟩) hcb).trans hcel.out
 have hgl2:g<W2.heap.size:=h2.out.scan.blk.lt
 have hbl2:b<W2.heap.size:=Nat.lt_of_lt_of_le hcb hb2.out.size
 go_wp2_with fail
 refine Ad (by kernel_rfl) (by kernel_rfl) ?_
 repeat (go_big_quiet_step ((go_at_call 63;(with_reducible exact A0 (Bc _ _)))))
 refine wpQuiet_nil ?_
 rintro _ ⟨xq,rfl⟩
 have hS:=Ae W2 xq
 obtain ⟨W3,hW3⟩:∃W3,W3=grow W2 xq:=⟨_,rfl⟩
 rw [<-hW3] at hS ⊢
 replace hW3:=Hd hW3
 have h3:=h2.out.grow hS
 have hb3:Below w.heap.size w W3:=hb2.out.trans (hS.mono hb2.out.size)
 have hz3:W3.rangeAt w.heap.size 0 [.int .i64 0,.string ⟨#[]⟩,.int .i64 0,.float .f64 0,.bool false,.slice none 0 0]:=fun q x hq=>by rw [hS.cell (World.block_lt_of_cell? _ _ (hz2.out q x hq))];exact hz2.out q x hq
 have hk3:Blk W3 w.heap.size:=hk2.out.of_block (hS.block _ hk2.out.lt)
 clear c0 c1 hS cc
 replace h3:=Hd h3
 replace hb3:=Hd hb3
 replace hz3:=Hd hz3
 replace hk3:=Hd hk3
 rw [<-hkd]
 have hk0:((kd:Int) == 0)=false:=by simp;omega
 replace hkd:=Hd hkd
 have c1:=h3.out.scan.c1
 have fz:=h3.out.scan.blk.frz 1 none
 go_wp2_with fail
 have e4:(at_:Int)+1=((at_+1:Nat):Int):=by omega
 rw [e4]
 have hf4:Fr (fun k=>k=g) w (W3.setCell ⟨g,1,none⟩ (.int .i64 ((at_+1:Nat):Int))):=Fr.setCell (S:=fun k=>k=g) (Ag hb3.out) (fun _=>rfl) _
 have h4:RS rp w0 (W3.setCell ⟨g,1,none⟩ (.int .i64 ((at_+1:Nat):Int))) g b o n cap s (at_+1) many:=h3.out.next (Fr.setCell (S:=fun k=>k=g) (Fr.refl _ _) (fun _=>rfl) _) (h3.out.scan.move _) (by omega)
 have hz4:(W3.setCell ⟨g,1,none⟩ (.int .i64 ((at_+1:Nat):Int))).rangeAt w.heap.size 0 [.int .i64 0,.string ⟨#[]⟩,.int .i64 0,.float .f64 0,.bool false,.slice none 0 0]:=fun q x hq=>by
   rw [Ab (fun e=>by have:=congrArg Addr.block e;simp at this;omega)];exact hz3.out q x hq
 have hk4:Blk (W3.setCell ⟨g,1,none⟩ (.int .i64 ((at_+1:Nat):Int))) w.heap.size:=hk3.out.setCell _ _
 generalize W3.setCell ⟨g,1,none⟩ (.int .i64 ((at_+1:Nat):Int))=W4 at *
 clear c1 fz e4
 replace h4:=Hd h4
 replace hf4:=Hd hf4
 replace hz4:=Hd hz4
 replace hk4:=Hd hk4
 refine (Cs h4.out.scan h4.out.le (by rw [hL2.out];exact hl.out)).mono ?_
 rintro e W6 ⟨rfl,hf6,hs6,hle6⟩
 have h6:=h4.out.next hf6 hs6 hle6
 have hf06:=hf4.out.trans hf6
 have hne6:¬w.heap.size=g:=by omega
 have hz6:W6.rangeAt w.heap.size 0 [.int .i64 0,.string ⟨#[]⟩,.int .i64 0,.float .f64 0,.bool false,.slice none 0 0]:=fun q x hq=>hf6.cell (hz4.out q x hq) hne6
 have hk6:Blk W6 w.heap.size:=hk4.out.fr hf6 hne6
 clear hf6 hs6 hle6
 replace h6:=Hd h6
 replace hf06:=Hd hf06
 replace hz6:=Hd hz6
 replace hk6:=Hd hk6
 rw [<-hkd.out] at hcall
 have hno6:=Er (w:=W6) (t:=⟨t.toArray⟩) (most:=1000) hts (by omega) h6.out.nums hm
 replace hno6:=Hd hno6
 clear hm hlen hts
 generalize (⟨t.toArray⟩:ByteArray)=T at *
 go_upto_region 8 with fail
 go_cut [51] from 43 to 51 (fun s5 wx=>s5=.bool false/\wx=W6)
 case first=>
   rcases hk with ⟨rfl,_⟩ | ⟨rfl,_⟩ | ⟨rfl,_⟩ | ⟨rfl,_⟩
   · by_cases ht:t=[45,49]
     · exact absurd ⟨ht,.inr rfl⟩ hn
     · rw [decide_eq_false ht] at htl
       replace ht:=Hd ht;clear hn;go_wp2_with fail
       go_meet
       exact ⟨rfl,rfl⟩
   all_goals
     clear hn
     rcases Bool.eq_false_or_eq_true (decide (t=[45,49])) with hd | hd
     all_goals
       rw [hd] at htl
       replace hd:=Hd hd
       go_wp2_with fail
       go_meet
       exact ⟨rfl,rfl⟩
 obtain ⟨rfl,hww⟩:=hcut
 obtain rfl:=hww.symm
 clear hww hn htl
 have hkk:((kd=5\/kd=13\/kd=14)/\N=len)\/kd=12/\N=2 * len:=by omega
 clear hk
 rcases hkk with ⟨hk,rfl⟩ | ⟨rfl,rfl⟩
 · have z4:((kd:Int) == 4)=false:=by simp;omega
   have z10:((kd:Int) == 10)=false:=by simp;omega
   have z11:((kd:Int) == 11)=false:=by simp;omega
   go_upto_if 69 with fail
   go_cut [69] from 69 to 72 (fun s5 wx=>s5=.bool true/\wx=W6)
   case first=>
     rcases hk with rfl | rfl | rfl
     all_goals
       go_wp2_with fail
       go_meet
       exact ⟨rfl,rfl⟩
   obtain ⟨rfl,hww⟩:=hcut;obtain rfl:=hww.symm;clear hww;go_wp2_with fail
   refine hno6.out.mono ?_;rintro e W7 ⟨rfl,hb⟩;have h7:=h6.out.grow hb;have hf7:=hf06.out.trans (Ag (g:=g) hb);have hz7:W7.rangeAt w.heap.size 0 [.int .i64 0,.string ⟨#[]⟩,.int .i64 0,.float .f64 0,.bool false,.slice none 0 0]:=fun q x hq=>by rw [(hb).cell (World.block_lt_of_cell? _ _ (hz6.out q x hq))];exact hz6.out q x hq
   have hk7:Blk W7 w.heap.size:=hk6.out.of_block ((hb).block _ hk6.out.lt);replace h7:=Hd h7;replace hf7:=Hd hf7;replace hz7:=Hd hz7;replace hk7:=Hd hk7;clear hb;go_wp2_with fail
   refine (hcall.out W7 h7.out).mono ?_;rintro e w' ⟨rfl,hb2⟩;exact ⟨rfl,rfl,hf7.out.trans hb2⟩
 · go_wp2_with fail
   refine hno6.out.mono ?_;rintro e W7 ⟨rfl,hb⟩;have h7:=h6.out.grow hb;have hf7:=hf06.out.trans (Ag (g:=g) hb);have hz7:W7.rangeAt w.heap.size 0 [.int .i64 0,.string ⟨#[]⟩,.int .i64 0,.float .f64 0,.bool false,.slice none 0 0]:=fun q x hq=>by rw [(hb).cell (World.block_lt_of_cell? _ _ (hz6.out q x hq))];exact hz6.out q x hq
   have hk7:Blk W7 w.heap.size:=hk6.out.of_block ((hb).block _ hk6.out.lt);replace h7:=Hd h7;replace hf7:=Hd hf7;replace hz7:=Hd hz7;replace hk7:=Hd hk7;clear hb;go_wp2_with fail
   have e12:(2:Int) * (len:Int)=((2 * len:Nat):Int):=by omega
   try rw [e12]
   clear e12;refine (hcall.out W7 h7.out).mono ?_;rintro e w' ⟨rfl,hb2⟩;exact ⟨rfl,rfl,hf7.out.trans hb2⟩
set_option maxRecDepth 100000 in
set_option maxHeartbeats 6400000 in
theorem value_listgot {rp:Rp} {w0 w:World} {g b o n cap at_ many u u2 m2 len N:Nat} {s:ByteArray} {d:Int} {c:UInt8} {t L:List UInt8} {l:List V} (h:RS rp w0 w g b o n cap s at_ many) (hL:s.data.toList.drop at_=c :: L)
   (hk:(Ac c=5/\N=len)\/(Ac c=13/\N=len)\/(Ac c=14/\N=len)\/(Ac c=12/\N=2 * len)) (hl:A7 L=.got (t,u)) (hn:¬(t=[45,49]/\(Ac c=4\/Ac c=5))) (hm:numS t 1000=some len)
   (hbw:b<w.heap.size)
   (hcall:∀W,RS rp w0 W g b o n cap s (at_+1+u) many->Calls Tryz.prog 70 #[.pointer (some ⟨g,0,none⟩),.int .i64 (Ac c:Int),.int .i64 (N:Int),.int .i64 d] W (ListQ rp w0 g b o n cap s (Ac c:Int) (at_+1+u) (.got (l,u2,m2)) W)) :
   Calls Tryz.prog 46 #[.pointer (some ⟨g,0,none⟩),.int .i64 d] w (ValQ rp w0 g b o n cap s at_ (.got (.mk (Ac c:Int) ⟨#[]⟩ 0 0 false l,1+u+u2,m2)) w):=by
 have hle:len<=1000:=Fq hm
 replace hcall:=Hd hcall
 obtain ⟨kd,hkd⟩:∃kd,kd=Ac c:=⟨_,rfl⟩
 rw [<-hkd] at hk hn
 have hlen:=Df hl
 have hts:(⟨t.toArray⟩:ByteArray).size<=1000000:=by
   rw [Am];show t.length<=_;omega
 have htl:((⟨t.toArray⟩:ByteArray).toList == [45,49])=decide (t=[45,49]):=by
   rw [ByteArray.toList_eq];show (t == [45,49])=_;rw [Bool.eq_iff_iff,beq_iff_eq,decide_eq_true_eq]
 replace hl:=Hd hl
 have hlt:at_<n:=by
   rcases Nat.lt_or_ge at_ n with hh | hh
   · exact hh
   · rw [List.drop_of_length_le (by rw [<-Am,h.scan.size];exact hh)] at hL;cases hL
 have hai:¬(n:Int)<=(at_:Int):=by omega
 have hai2:(at_:Int)<(n:Int):=by omega
 have hbig:=h.scan.big
 obtain ⟨hcel,hL2⟩:w.cell? ⟨b,o+at_,none⟩=some (.int .u8 (c.toNat:Int))/\s.data.toList.drop (at_+1)=L:=by
   have hz:=h.scan.size;have h1:=h.scan.bytes at_ (by omega);have e1:=Lib.data_getElem? s at_ (by omega);have e2:s.data.toList[at_]?=some c:=by
     have:=congrArg (·[0]?) hL
     simp only [List.getElem?_drop,Nat.add_zero] at this;exact this
   rw [e1] at e2;rw [h1,Option.some.inj e2];refine ⟨rfl,?_⟩;rw [<-List.drop_drop,hL];rfl
 have hcb:=World.block_lt_of_cell? _ _ hcel
 replace hcb:b<w.heap.size:=hcb
 replace hL:=Hd hL
 replace hL2:=Hd hL2
 replace hcel:=Hd hcel
 obtain ⟨W1,hW1⟩:∃W1,W1=w.alloc (.cells #[.int .i64 0,.string ⟨#[]⟩,.int .i64 0,.float .f64 0,.bool false,.slice none 0 0] 26):=⟨_,rfl⟩
 have hb1:Below w.heap.size w W1:=by rw [hW1];exact (Below.refl _ _).alloc (Nat.le_refl _) _
 have h1:=h.grow hb1
 have hz1:W1.rangeAt w.heap.size 0 [.int .i64 0,.string ⟨#[]⟩,.int .i64 0,.float .f64 0,.bool false,.slice none 0 0]:=by
   rw [hW1];intro q x hq;rw [Nat.zero_add,World.cell?_alloc_new];simpa using hq
 have hk1:Blk W1 w.heap.size:=by rw [hW1];exact Blk.new _ _ _
 have c0:=h1.scan.c0
 have c1:=h1.scan.c1
 have hgl:g<W1.heap.size:=h1.scan.blk.lt
 have hgw:g<w.heap.size:=h.scan.blk.lt
 replace hW1:=Hd hW1
 replace hb1:=Hd hb1
 replace h1:=Hd h1
 replace hz1:=Hd hz1
 replace hk1:=Hd hk1
 replace h:=Hd h
 go_enter Tryz.func46,Tryz.ntmps46
 go_wp2_with fail
 rw [<-hW1.out]
 refine Ad (by kernel_rfl) (by kernel_rfl) ?_
 repeat (go_big_quiet_step ((fail)))
 refine wpQuiet_nil ?_
 rintro _ ⟨xq,rfl⟩
 have hS:=Ae W1 xq
 obtain ⟨W2,hW2⟩:∃W2,W2=grow W1 xq:=⟨_,rfl⟩
 rw [<-hW2] at hS ⊢
 replace hW2:=Hd hW2
 have h2:=h1.out.grow hS
 have hb2:Below w.heap.size w W2:=hb1.out.trans (hS.mono hb1.out.size)
 have hz2:W2.rangeAt w.heap.size 0 [.int .i64 0,.string ⟨#[]⟩,.int .i64 0,.float .f64 0,.bool false,.slice none 0 0]:=fun q x hq=>by rw [hS.cell (World.block_lt_of_cell? _ _ (hz1.out q x hq))];exact hz1.out q x hq
 have hk2:Blk W2 w.heap.size:=hk1.out.of_block (hS.block _ hk1.out.lt)
 clear c0 c1 hS
 replace h2:=Hd h2
 replace hb2:=Hd hb2
 replace hz2:=Hd hz2
 replace hk2:=Hd hk2
 have c0:=h2.out.scan.c0
 have c1:=h2.out.scan.c1
 have cc:=(hb2.out.cell (p:=⟨b,o+at_,none⟩) hcb).trans hcel.out
 have hgl2:g<W2.heap.size:=h2.out.scan.blk.lt
 have hbl2:b<W2.heap.size:=Nat.lt_of_lt_of_le hcb hb2.out.size
 go_wp2_with fail
 refine Ad (by kernel_rfl) (by kernel_rfl) ?_
 repeat (go_big_quiet_step ((go_at_call 63;(with_reducible exact A0 (Bc _ _)))))
 refine wpQuiet_nil ?_
 rintro _ ⟨xq,rfl⟩
 have hS:=Ae W2 xq
 obtain ⟨W3,hW3⟩:∃W3,W3=grow W2 xq:=⟨_,rfl⟩
 rw [<-hW3] at hS ⊢
 replace hW3:=Hd hW3
 have h3:=h2.out.grow hS
 have hb3:Below w.heap.size w W3:=hb2.out.trans (hS.mono hb2.out.size)
 have hz3:W3.rangeAt w.heap.size 0 [.int .i64 0,.string ⟨#[]⟩,.int .i64 0,.float .f64 0,.bool false,.slice none 0 0]:=fun q x hq=>by rw [hS.cell (World.block_lt_of_cell? _ _ (hz2.out q x hq))];exact hz2.out q x hq
 have hk3:Blk W3 w.heap.size:=hk2.out.of_block (hS.block _ hk2.out.lt)
 clear c0 c1 hS cc
 replace h3:=Hd h3
 replace hb3:=Hd hb3
 replace hz3:=Hd hz3
 replace hk3:=Hd hk3
 rw [<-hkd]
 have hk0:((kd:Int) == 0)=false:=by simp;omega
 replace hkd:=Hd hkd
 have c1:=h3.out.scan.c1
 have fz:=h3.out.scan.blk.frz 1 none
 go_wp2_with fail
 have e4:(at_:Int)+1=((at_+1:Nat):Int):=by omega
 rw [e4]
 have hf4:Fr (fun k=>k=g) w (W3.setCell ⟨g,1,none⟩ (.int .i64 ((at_+1:Nat):Int))):=Fr.setCell (S:=fun k=>k=g) (Ag hb3.out) (fun _=>rfl) _
 have h4:RS rp w0 (W3.setCell ⟨g,1,none⟩ (.int .i64 ((at_+1:Nat):Int))) g b o n cap s (at_+1) many:=h3.out.next (Fr.setCell (S:=fun k=>k=g) (Fr.refl _ _) (fun _=>rfl) _) (h3.out.scan.move _) (by omega)
 have hz4:(W3.setCell ⟨g,1,none⟩ (.int .i64 ((at_+1:Nat):Int))).rangeAt w.heap.size 0 [.int .i64 0,.string ⟨#[]⟩,.int .i64 0,.float .f64 0,.bool false,.slice none 0 0]:=fun q x hq=>by
   rw [Ab (fun e=>by have:=congrArg Addr.block e;simp at this;omega)];exact hz3.out q x hq
 have hk4:Blk (W3.setCell ⟨g,1,none⟩ (.int .i64 ((at_+1:Nat):Int))) w.heap.size:=hk3.out.setCell _ _
 generalize W3.setCell ⟨g,1,none⟩ (.int .i64 ((at_+1:Nat):Int))=W4 at *
 clear c1 fz e4
 replace h4:=Hd h4
 replace hf4:=Hd hf4
 replace hz4:=Hd hz4
 replace hk4:=Hd hk4
 refine (Cs h4.out.scan h4.out.le (by rw [hL2.out];exact hl.out)).mono ?_
 rintro e W6 ⟨rfl,hf6,hs6,hle6⟩
 have h6:=h4.out.next hf6 hs6 hle6
 have hf06:=hf4.out.trans hf6
 have hne6:¬w.heap.size=g:=by omega
 have hz6:W6.rangeAt w.heap.size 0 [.int .i64 0,.string ⟨#[]⟩,.int .i64 0,.float .f64 0,.bool false,.slice none 0 0]:=fun q x hq=>hf6.cell (hz4.out q x hq) hne6
 have hk6:Blk W6 w.heap.size:=hk4.out.fr hf6 hne6
 clear hf6 hs6 hle6
 replace h6:=Hd h6
 replace hf06:=Hd hf06
 replace hz6:=Hd hz6
 replace hk6:=Hd hk6
 rw [<-hkd.out] at hcall
 have hno6:=Er (w:=W6) (t:=⟨t.toArray⟩) (most:=1000) hts (by omega) h6.out.nums hm
 replace hno6:=Hd hno6
 clear hm hlen hts
 generalize (⟨t.toArray⟩:ByteArray)=T at *
 go_upto_region 8 with fail
 go_cut [51] from 43 to 51 (fun s5 wx=>s5=.bool false/\wx=W6)
 case first=>
   rcases hk with ⟨rfl,_⟩ | ⟨rfl,_⟩ | ⟨rfl,_⟩ | ⟨rfl,_⟩
   · by_cases ht:t=[45,49]
     · exact absurd ⟨ht,.inr rfl⟩ hn
     · rw [decide_eq_false ht] at htl
       replace ht:=Hd ht;clear hn;go_wp2_with fail
       go_meet
       exact ⟨rfl,rfl⟩
   all_goals
     clear hn
     rcases Bool.eq_false_or_eq_true (decide (t=[45,49])) with hd | hd
     all_goals
       rw [hd] at htl
       replace hd:=Hd hd
       go_wp2_with fail
       go_meet
       exact ⟨rfl,rfl⟩
 obtain ⟨rfl,hww⟩:=hcut
 obtain rfl:=hww.symm
 clear hww hn htl
 have hkk:((kd=5\/kd=13\/kd=14)/\N=len)\/kd=12/\N=2 * len:=by omega
 clear hk
 rcases hkk with ⟨hk,rfl⟩ | ⟨rfl,rfl⟩
 · have z4:((kd:Int) == 4)=false:=by simp;omega
   have z10:((kd:Int) == 10)=false:=by simp;omega
   have z11:((kd:Int) == 11)=false:=by simp;omega
   go_upto_if 69 with fail
   go_cut [69] from 69 to 72 (fun s5 wx=>s5=.bool true/\wx=W6)
   case first=>
     rcases hk with rfl | rfl | rfl
     all_goals
       go_wp2_with fail
       go_meet
       exact ⟨rfl,rfl⟩
   obtain ⟨rfl,hww⟩:=hcut;obtain rfl:=hww.symm;clear hww;go_wp2_with fail
   refine hno6.out.mono ?_;rintro e W7 ⟨rfl,hb⟩;have h7:=h6.out.grow hb;have hf7:=hf06.out.trans (Ag (g:=g) hb);have hz7:W7.rangeAt w.heap.size 0 [.int .i64 0,.string ⟨#[]⟩,.int .i64 0,.float .f64 0,.bool false,.slice none 0 0]:=fun q x hq=>by rw [(hb).cell (World.block_lt_of_cell? _ _ (hz6.out q x hq))];exact hz6.out q x hq
   have hk7:Blk W7 w.heap.size:=hk6.out.of_block ((hb).block _ hk6.out.lt);replace h7:=Hd h7;replace hf7:=Hd hf7;replace hz7:=Hd hz7;replace hk7:=Hd hk7;clear hb;go_wp2_with fail
   refine (hcall.out W7 h7.out).mono ?_;rintro e W8 ⟨ad1,ca1,rfl,hrv8,hf8,h8⟩;have hf08:=hf7.out.trans hf8;have hne6:¬w.heap.size=g:=by omega
   have hz8:W8.rangeAt w.heap.size 0 [.int .i64 0,.string ⟨#[]⟩,.int .i64 0,.float .f64 0,.bool false,.slice none 0 0]:=fun q x hq=>hf8.cell (hz7.out q x hq) hne6;have hk8:Blk W8 w.heap.size:=hk7.out.fr hf8 hne6;have hlt7:=hk7.out.lt;clear hf8;have htC:=Ao (n:=6) hz8 hk8 rfl;have hrR:(W8.setCells w.heap.size 0 [.int .i64 (kd:Int),.string ⟨#[]⟩,.int .i64 0,.float .f64 0,.bool false,.slice ad1 l.length ca1]).rangeAt w.heap.size 0 [.int .i64 (kd:Int),.string ⟨#[]⟩,.int .i64 0,.float .f64 0,.bool false,.slice ad1 l.length ca1]:=World.rangeAt_setCells_same _ _ _ _ htC;have hfw:Fr (fun k=>k=w.heap.size) W8 (W8.setCells w.heap.size 0 [.int .i64 (kd:Int),.string ⟨#[]⟩,.int .i64 0,.float .f64 0,.bool false,.slice ad1 l.length ca1]):=Fr.setCells (S:=fun k=>k=w.heap.size) (fun _=>rfl) _ _ _ (Fr.refl _ _);have hff:=hf08.trans_new hfw (fun i hi e=>by omega)
   have hrs:RS rp w0 (W8.setCells w.heap.size 0 [.int .i64 (kd:Int),.string ⟨#[]⟩,.int .i64 0,.float .f64 0,.bool false,.slice ad1 l.length ca1]) g b o n cap s _ m2:=h8.fr hfw (by omega) (by omega) (fun i e=>by have:=h.out.base;omega);have hrv9:=hrv8.mono (newer_fr hfw hlt7);replace htC:=Hd htC;replace hrR:=Hd hrR;replace hff:=Hd hff;replace hrs:=Hd hrs;replace hrv9:=Hd hrv9;clear hfw hrv8 h8 hf08 hz8 hk8;go_wp2_with (refine wpList_store_mid rfl 26 _ _ rfl w.heap.size 0 _ rfl rfl htC.out Ai (one6 _ _ _ _ _ _ _ _) ?_)
   refine bodyPost_ret (Ap (v:=.agg #[.int .i64 (kd:Int),.string ⟨#[]⟩,.int .i64 0,.float .f64 0,.bool false,.slice ad1 l.length ca1]) rfl rfl (run_loadVar_mid (P:=Tryz.prog) _ _ 0 26 _ _ hrR.out Tryz.underlying26 rfl Ai)) rfl ?_;rw [<-hkd.out];exact ⟨ad1,ca1,rfl,hrv9.out,hff.out,by rw [show at_+(1+u+u2)=at_+1+u+u2 by omega];exact hrs.out⟩
 · go_wp2_with fail
   refine hno6.out.mono ?_;rintro e W7 ⟨rfl,hb⟩;have h7:=h6.out.grow hb;have hf7:=hf06.out.trans (Ag (g:=g) hb);have hz7:W7.rangeAt w.heap.size 0 [.int .i64 0,.string ⟨#[]⟩,.int .i64 0,.float .f64 0,.bool false,.slice none 0 0]:=fun q x hq=>by rw [(hb).cell (World.block_lt_of_cell? _ _ (hz6.out q x hq))];exact hz6.out q x hq
   have hk7:Blk W7 w.heap.size:=hk6.out.of_block ((hb).block _ hk6.out.lt);replace h7:=Hd h7;replace hf7:=Hd hf7;replace hz7:=Hd hz7;replace hk7:=Hd hk7;clear hb;go_wp2_with fail
   have e12:(2:Int) * (len:Int)=((2 * len:Nat):Int):=by omega
   try rw [e12]
   clear e12;refine (hcall.out W7 h7.out).mono ?_;rintro e W8 ⟨ad1,ca1,rfl,hrv8,hf8,h8⟩;have hf08:=hf7.out.trans hf8;have hne6:¬w.heap.size=g:=by omega
   have hz8:W8.rangeAt w.heap.size 0 [.int .i64 0,.string ⟨#[]⟩,.int .i64 0,.float .f64 0,.bool false,.slice none 0 0]:=fun q x hq=>hf8.cell (hz7.out q x hq) hne6;have hk8:Blk W8 w.heap.size:=hk7.out.fr hf8 hne6;have hlt7:=hk7.out.lt;clear hf8;have htC:=Ao (n:=6) hz8 hk8 rfl;have hrR:(W8.setCells w.heap.size 0 [.int .i64 12,.string ⟨#[]⟩,.int .i64 0,.float .f64 0,.bool false,.slice ad1 l.length ca1]).rangeAt w.heap.size 0 [.int .i64 12,.string ⟨#[]⟩,.int .i64 0,.float .f64 0,.bool false,.slice ad1 l.length ca1]:=World.rangeAt_setCells_same _ _ _ _ htC;have hfw:Fr (fun k=>k=w.heap.size) W8 (W8.setCells w.heap.size 0 [.int .i64 12,.string ⟨#[]⟩,.int .i64 0,.float .f64 0,.bool false,.slice ad1 l.length ca1]):=Fr.setCells (S:=fun k=>k=w.heap.size) (fun _=>rfl) _ _ _ (Fr.refl _ _);have hff:=hf08.trans_new hfw (fun i hi e=>by omega)
   have hrs:RS rp w0 (W8.setCells w.heap.size 0 [.int .i64 12,.string ⟨#[]⟩,.int .i64 0,.float .f64 0,.bool false,.slice ad1 l.length ca1]) g b o n cap s _ m2:=h8.fr hfw (by omega) (by omega) (fun i e=>by have:=h.out.base;omega);have hrv9:=hrv8.mono (newer_fr hfw hlt7);replace htC:=Hd htC;replace hrR:=Hd hrR;replace hff:=Hd hff;replace hrs:=Hd hrs;replace hrv9:=Hd hrv9;clear hfw hrv8 h8 hf08 hz8 hk8;go_wp2_with (refine wpList_store_mid rfl 26 _ _ rfl w.heap.size 0 _ rfl rfl htC.out Ai (one6 _ _ _ _ _ _ _ _) ?_)
   refine bodyPost_ret (Ap (v:=.agg #[.int .i64 12,.string ⟨#[]⟩,.int .i64 0,.float .f64 0,.bool false,.slice ad1 l.length ca1]) rfl rfl (run_loadVar_mid (P:=Tryz.prog) _ _ 0 26 _ _ hrR.out Tryz.underlying26 rfl Ai)) rfl ?_;rw [<-hkd.out];exact ⟨ad1,ca1,rfl,hrv9.out,hff.out,by rw [show at_+(1+u+u2)=at_+1+u+u2 by omega];exact hrs.out⟩
end Go.Proofs.YtagkgfniihiinaaGreatDoor
