/- The layer near once more: the values' lists lie apart from other blocks, too (av): what the document's answer keeps. (Turned by mkav.py out of XNear, XNearB, XNearC.) -/
import Derived.Test.YtfaihaoajdcjbaaGreatDoorJ22
import Derived.Maps.Range
import Derived.Maps.RangeWalk
import Derived.Deep.LoopGhost
import Derived.Shelf.Abstract
set_option linter.all false
namespace Go.Proofs.YtfaihaoajdcjbaaGreatDoor.Av
open Go.RowKit
theorem Eb {av:List Nat} {w w' : World} (h:∀b∈av,b<w.heap.size) (hs:w.heap.size<=w'.heap.size):∀b∈av,b<w'.heap.size:=fun b hb=>Nat.lt_of_lt_of_le (h b hb) hs
theorem off_fr {fp fp' av:List Nat} {w w' : World} (hf:Fr (·∈fp) w w') (hn:∀b∈fp', b∈fp\/w.heap.size<=b):∀a u,off (fp++av) w a=some u->off (fp' ++ av) w' a=some u:=
 Proofs.YtfaihaoajdcjbaaGreatDoor.off_fr (hf.mono (fun i _ h=>List.mem_append_left _ h)) (fun b hb=>(List.mem_append.1 hb).elim (fun h=>(hn b h).elim (fun h=>Or.inl (List.mem_append_left _ h)) Or.inr) (fun h=>Or.inl (List.mem_append_right _ h)))
structure NStr (w:World) (nb rb m vb tb:Nat) (ns fp av:List Nat) (ks:List ByteArray) (s:NS):Prop where
 efp:fp=nb :: rb :: m :: vb :: tb :: ns
 c0:w.cell? ⟨nb,0,none⟩=some (P0 rb)
 c1:w.cell? ⟨nb,1,none⟩=some (.map (some vb))
 c2:w.cell? ⟨nb,2,none⟩=some (.map (some tb))
 c3:w.cell? ⟨nb,3,none⟩=some (.int .i64 s.last)
 c4:w.cell? ⟨nb,4,none⟩=some (.int .i64 s.most)
 blk:Blk w nb
 rc:Rec w rb m ks ns
 vals:Vals w vb (fp++av) s.es
 tix:Tix w tb s.ts
 apart:∀b∈[nb,vb,tb],b ∉ rb :: m :: ns
 nv:nb≠vb
 nt:nb≠tb
 vt:vb≠tb
 tlt:∀p∈s.ts,p.1<=s.last
 most0:0<=s.most
 avlt:∀b∈av,b<w.heap.size
theorem NStr.lt {w:World} {nb rb m vb tb:Nat} {ns fp av:List Nat} {ks:List ByteArray} {s:NS} (h:NStr w nb rb m vb tb ns fp av ks s):∀b∈fp,b<w.heap.size:=fun b hb=>by
 rw [h.efp] at hb;have hr:=h.rc.lt;simp only [List.mem_cons] at hb hr;rcases hb with rfl | rfl | rfl | rfl | rfl | hb
 · exact h.blk.lt
 · exact hr _ (by simp)
 · exact hr _ (by simp)
 · exact h.vals.lt
 · exact h.tix.lt
 · exact hr _ (by simp [hb])
theorem NStr.fr {w w' : World} {nb rb m vb tb:Nat} {ns fp av:List Nat} {ks:List ByteArray} {s:NS} (h:NStr w nb rb m vb tb ns fp av ks s) {S:Nat->Prop} (hf:Fr S w w') (hS:∀b∈fp,¬S b) (hr:∀a u,off (fp++av) w a=some u->off (fp++av) w' a=some u):NStr w' nb rb m vb tb ns fp av ks s:=by
 have hm:=fun b hb=>hS b (by rw [h.efp];exact hb);have hn:¬S nb:=hm _ (by simp)
 exact ⟨h.efp,hf.cell h.c0 hn,hf.cell h.c1 hn,hf.cell h.c2 hn,hf.cell h.c3 hn,hf.cell h.c4 hn,h.blk.fr hf hn,h.rc.fr hf (fun b hb=>hm b (by simp at hb ⊢;rcases hb with h | h | h<;>simp [h])),
   h.vals.of_block (hf.block _ h.vals.lt (hm _ (by simp))) hr,h.tix.of_block (hf.block _ h.tix.lt (hm _ (by simp))),h.apart,h.nv,h.nt,h.vt,h.tlt,h.most0,Eb h.avlt hf.size⟩
theorem NStr.below {w w' : World} {nb rb m vb tb:Nat} {ns fp av:List Nat} {ks:List ByteArray} {s:NS} (h:NStr w nb rb m vb tb ns fp av ks s) (hb:Below w.heap.size w w'):NStr w' nb rb m vb tb ns fp av ks s:=
 h.fr (Fr.of_below hb) (fun b hb' hle=>by have:=h.lt b hb'; omega) (off_below hb)
theorem NStr.away {w:World} {nb rb m vb tb:Nat} {ns fp av:List Nat} {ks:List ByteArray} {s:NS} (h:NStr w nb rb m vb tb ns fp av ks s) {m' : Nat} {ns' : List Nat} (hn:∀b∈m' :: ns', b∈m :: ns\/w.heap.size<=b):∀b∈[nb,vb,tb],b ∉ rb :: m' :: ns' := fun b hb hm=>by
 have hlt:=h.lt b (by rw [h.efp];simp at hb ⊢;rcases hb with h | h | h<;>simp [h])
 rcases List.mem_cons.1 hm with e | e
 · exact h.apart b hb (by simp [e])
 · rcases hn b e with h1 | h1
   · exact h.apart b hb (List.mem_cons_of_mem _ h1)
   · omega
theorem NStr.new_fp {w:World} {nb rb m vb tb:Nat} {ns fp av:List Nat} {ks:List ByteArray} {s:NS} (h:NStr w nb rb m vb tb ns fp av ks s) {m' : Nat} {ns' : List Nat} (hn:∀b∈m' :: ns', b∈m :: ns\/w.heap.size<=b):∀b∈nb :: rb :: m' :: vb :: tb :: ns', b∈fp\/w.heap.size<=b:=fun b hb=>by
 rw [h.efp];have:=hn b;simp only [List.mem_cons] at hb this ⊢;rcases hb with h | h | h | h | h | h
 · simp [h]
 · simp [h]
 · rcases this (Or.inl h) with (h | h) | h<;>simp [h]
 · simp [h]
 · simp [h]
 · rcases this (Or.inr h) with (h | h) | h<;>simp [h]
theorem NStr.ring {w w' : World} {nb rb m vb tb:Nat} {ns fp av:List Nat} {ks:List ByteArray} {s:NS} (h:NStr w nb rb m vb tb ns fp av ks s) {m' : Nat} {ns' : List Nat} {ks' : List ByteArray} (hrc:Rec w' rb m' ks' ns') (hf:Fr (·∈rb :: m :: ns) w w')
   (hn:∀b∈m' :: ns', b∈m :: ns\/w.heap.size<=b):∃fp', NStr w' nb rb m' vb tb ns' fp' av ks' s/\Fr (·∈fp) w w' /\ ∀b∈fp', b∈fp\/w.heap.size<=b:=by
 have hf' : Fr (·∈fp) w w' := hf.mono (fun b _ hb=>by rw [h.efp];simp at hb ⊢;rcases hb with h | h | h<;>simp [h])
 have hnew:=h.new_fp hn;have ha:nb ∉ rb :: m :: ns/\vb ∉ rb :: m :: ns/\tb ∉ rb :: m :: ns:=⟨h.apart _ (by simp),h.apart _ (by simp),h.apart _ (by simp)⟩
 exact ⟨_,⟨rfl,hf.cell h.c0 ha.1,hf.cell h.c1 ha.1,hf.cell h.c2 ha.1,hf.cell h.c3 ha.1,hf.cell h.c4 ha.1,h.blk.fr hf ha.1,hrc,h.vals.of_block (hf.block _ h.vals.lt ha.2.1) (off_fr hf' hnew),
   h.tix.of_block (hf.block _ h.tix.lt ha.2.2),h.away hn,h.nv,h.nt,h.vt,h.tlt,h.most0,Eb h.avlt hf.size⟩,hf', hnew⟩
theorem NStr.setvals {w:World} {nb rb m vb tb:Nat} {ns fp av:List Nat} {ks:List ByteArray} {s:NS} (h:NStr w nb rb m vb tb ns fp av ks s) {o:Obj} {es' : List (ByteArray × V)}
   (hv:∀W fp', W.heap[vb]?=some o->(∀a u,off (fp++av) w a=some u->off fp' W a=some u)->Vals W vb fp' es') :
   NStr (setB w vb o) nb rb m vb tb ns fp av ks { s with es:=es' }/\Fr (·∈fp) w (setB w vb o):=by
 have hf:=setB_fr (w:=w) vb o;have hf' : Fr (·∈fp) w (setB w vb o):=hf.mono (fun b _ hb=>by rw [h.efp];simp at hb ⊢;simp [hb])
 have hm:∀b,b≠vb->¬b∈[vb]:=fun b hb hm=>hb (by simpa using hm);have hn:=hm nb h.nv;have hr:∀b∈rb :: m :: ns,¬b∈[vb]:=fun b hb=>hm b (fun e=>h.apart vb (by simp) (e ▸ hb))
 exact ⟨⟨h.efp,hf.cell h.c0 hn,hf.cell h.c1 hn,hf.cell h.c2 hn,hf.cell h.c3 hn,hf.cell h.c4 hn,h.blk.fr hf hn,h.rc.fr hf hr,hv _ _ (setB_at o h.vals.lt) (off_fr hf' (fun b hb=>Or.inl hb)),
   h.tix.of_block (hf.block _ h.tix.lt (hm tb h.vt.symm)),h.apart,h.nv,h.nt,h.vt,h.tlt,h.most0,Eb h.avlt hf.size⟩,hf'⟩
theorem NStr.settix {w:World} {nb rb m vb tb:Nat} {ns fp av:List Nat} {ks:List ByteArray} {s:NS} (h:NStr w nb rb m vb tb ns fp av ks s) {o:Obj} {ts' : List (Int × ByteArray)}
   (ht:∀W,W.heap[tb]?=some o->Tix W tb ts') (hl:∀p∈ts', p.1<=s.last) :
   NStr (setB w tb o) nb rb m vb tb ns fp av ks { s with ts:=ts' }/\Fr (·∈fp) w (setB w tb o):=by
 have hf:=setB_fr (w:=w) tb o;have hf' : Fr (·∈fp) w (setB w tb o):=hf.mono (fun b _ hb=>by rw [h.efp];simp at hb ⊢;simp [hb])
 have hm:∀b,b≠tb->¬b∈[tb]:=fun b hb hm=>hb (by simpa using hm);have hn:=hm nb h.nt;have hr:∀b∈rb :: m :: ns,¬b∈[tb]:=fun b hb=>hm b (fun e=>h.apart tb (by simp) (e ▸ hb))
 exact ⟨⟨h.efp,hf.cell h.c0 hn,hf.cell h.c1 hn,hf.cell h.c2 hn,hf.cell h.c3 hn,hf.cell h.c4 hn,h.blk.fr hf hn,h.rc.fr hf hr,
   h.vals.of_block (hf.block _ h.vals.lt (hm vb h.vt)) (off_fr hf' (fun b hb=>Or.inl hb)),ht _ (setB_at o h.tix.lt),h.apart,h.nv,h.nt,h.vt,hl,h.most0,Eb h.avlt hf.size⟩,hf'⟩
def Near (w:World) (nb:Nat) (fp av:List Nat) (s:NS):Prop:=∃rb m vb tb ns,NStr w nb rb m vb tb ns fp av s.keys s
theorem Near.lt {w:World} {nb:Nat} {fp av:List Nat} {s:NS} (h:Near w nb fp av s):∀b∈fp,b<w.heap.size:=let ⟨_,_,_,_,_,h⟩:=h;h.lt
theorem Near.below {w w' : World} {nb:Nat} {fp av:List Nat} {s:NS} (h:Near w nb fp av s) (hb:Below w.heap.size w w'):Near w' nb fp av s:=let ⟨_,_,_,_,_,h⟩:=h;⟨_,_,_,_,_,h.below hb⟩
theorem near_len {w:World} {nb:Nat} {fp av:List Nat} {s:NS} (h:Near w nb fp av s):Calls Tryz.prog 25 #[P0 nb] w fun e w' => e=.returned (.int .i64 s.es.length)/\w' = w:=by
 obtain ⟨rb,m,vb,tb,ns,h⟩:=h;have h1:=h.c1;obtain ⟨l,hl,hp,_⟩:=h.vals;have hlen:l.length=s.es.length:=by have:=hp.length_eq;simpa using this
 have hrun:=fun T=>run_len_map (P:=Tryz.prog) hl _ _ _ T Tryz.underlying81;rw [hlen] at hrun;clear h hp hlen hl
 go_enter Tryz.func25,Tryz.ntmps25
 go_wp2;go_ret;exact ⟨rfl,rfl⟩
theorem near_keys {w:World} {nb:Nat} {fp av:List Nat} {s:NS} (h:Near w nb fp av s) (hn:s.es.length<=1000000) :
   Calls Tryz.prog 18 #[P0 nb] w fun e w' => ∃v,e=.returned v/\w'.ownsRow w.heap.size 9 1 v s.keys.length (s.keys.map Value.string)/\Below w.heap.size w w' := by
 obtain ⟨rb,m,vb,tb,ns,h⟩:=h;have h1:=h.c0;have hr:=h.rc;have hk:s.keys.length<=1000000:=by simpa [NS.keys] using hn
 clear h;replace hk:=Hd hk
 go_enter Tryz.func18,Tryz.ntmps18
 go_wp2_with fail
 refine (all_any hr hk.out).mono ?_;rintro e w1 ⟨v,rfl,ho,hb⟩;clear h1 hr;go_wp2;go_ret;exact ⟨v,rfl,ho,hb⟩
theorem F6 {w w1:World} {r m:Nat} {av:List Nat} (hav:∀b∈av,b<w.heap.size) (most:Int) (h0:0<=most) (hrec:Rec w1 r m [] []) (hb:Below w.heap.size w w1) (hr:w.heap.size<=r) (hm:w.heap.size<=m) (W:World)
   (hW:W=((w1.alloc (.map #[] 0)).alloc (.map #[] 0)).alloc (.cells #[P0 r,.map (some w1.heap.size),.map (some (w1.heap.size+1)),.int .i64 0,.int .i64 most] 84)) :
   ∃fp,Near W (w1.heap.size+1+1) fp av ⟨[],[],0,most⟩/\Below w.heap.size w W/\∀b∈fp,w.heap.size<=b:=by
 obtain ⟨A,hA⟩:∃A,A=w1.alloc (.map #[] 0):=⟨_,rfl⟩;obtain ⟨B,hB⟩:∃B,B=A.alloc (.map #[] 0):=⟨_,rfl⟩;have sA:A.heap.size=w1.heap.size+1:=by rw [hA];simp
 have sB:B.heap.size=w1.heap.size+1+1:=by rw [hB];simp [sA]
 have bA:Below w1.heap.size w1 A:=by rw [hA];exact (Below.refl _ _).alloc (Nat.le_refl _) _
 have bB:Below A.heap.size A B:=by rw [hB];exact (Below.refl _ _).alloc (Nat.le_refl _) _
 have hW' : W=B.alloc (.cells #[P0 r,.map (some w1.heap.size),.map (some (w1.heap.size+1)),.int .i64 0,.int .i64 most] 84):=by rw [hW,hB,hA]
 have bW:Below B.heap.size B W:=by rw [hW'];exact (Below.refl _ _).alloc (Nat.le_refl _) _
 have b1:Below w1.heap.size w1 W:=bA.trans ((bB.mono (by omega)).trans (bW.mono (by omega)));have hc:∀o,W.cell? ⟨w1.heap.size+1+1,o,none⟩=#[P0 r,.map (some w1.heap.size),.map (some (w1.heap.size+1)),.int .i64 0,.int .i64 most][o]?:=fun o=>by
   rw [hW', <-sB,World.cell?_alloc_new]
 have m1:W.heap[w1.heap.size]?=some (.map #[] 0):=by
   rw [bW.block _ (by omega),bB.block _ (by omega),hA];exact (MapKept.heap_alloc w1 _).1
 have m2:W.heap[w1.heap.size+1]?=some (.map #[] 0):=by
   rw [bW.block _ (by omega),hB,<-sA];exact (MapKept.heap_alloc A _).1
 have hl:=hrec.lt;have lr:=hl r (by simp);have lm:=hl m (by simp);have hs:=hb.size
 refine ⟨_,⟨r,m,w1.heap.size,w1.heap.size+1,[],rfl,by rw [hc];rfl,by rw [hc];rfl,by rw [hc];rfl,by rw [hc];rfl,by rw [hc];rfl,?_,hrec.below b1,⟨[],⟨by simp,#[],0,m1,rfl,by simp,by simp⟩,by simp,by simp⟩,
   ⟨[],⟨by simp,#[],0,m2,rfl,by simp,by simp⟩,by simp⟩,?_,by omega,by omega,by omega,by simp,h0,fun b hb' => by have h1:=hav b hb'; have h2:=b1.size;omega⟩,hb.trans (b1.mono hs),?_⟩
 · rw [hW', <-sB];exact Blk.new _ _ _
 · intro b hb' hm'
   simp only [List.mem_cons,List.not_mem_nil,or_false] at hb' hm';omega
 · intro b hb'
   simp only [List.mem_cons,List.not_mem_nil,or_false] at hb';omega
theorem near_new {av:List Nat} (most:Int) (w:World) (hav:∀b∈av,b<w.heap.size):Calls Tryz.prog 28 #[.int .i64 most] w fun e w' => ∃nb fp,e=.returned (P0 nb)/\Near w' nb fp av ⟨[],[],0,max most 0⟩/\Below w.heap.size w w' /\ ∀b∈fp,w.heap.size<=b:=by
 have hmm:=@run_makeMap Tryz.prog;by_cases hmost:most<0
 all_goals
   go_enter Tryz.func28,Tryz.ntmps28
   go_wp2_with fail
   refine (new_any w).mono ?_
   rintro e w1 ⟨r,m,rfl,hrec,hb,hr,hm⟩
   replace hrec:=Hd hrec
   go_wp2
   go_ret
 · rw [show max most 0=0 by omega]
   obtain ⟨fp,h1,h2,h3⟩:=F6 hav 0 (by omega) hrec.out hb hr hm _ rfl;exact ⟨_,fp,rfl,h1,h2,h3⟩
 · rw [show max most 0=most by omega]
   obtain ⟨fp,h1,h2,h3⟩:=F6 hav most (by omega) hrec.out hb hr hm _ rfl;exact ⟨_,fp,rfl,h1,h2,h3⟩
theorem near_peekK {w:World} {nb:Nat} {fp av:List Nat} {s:NS} (h:Near w nb fp av s) (k:ByteArray) :
   Calls Tryz.prog 21 #[P0 nb,.string k] w fun e w' => ∃cs:List Value,e=.returned (.tuple #[.agg cs.toArray,.bool (A1 s.es k).isSome])/\RV (Aq w.heap.size w') cs ((A1 s.es k).getD V.zero)/\Below w.heap.size w w' /\ Writ (w.heap.size+1) w' cs:=by
 obtain ⟨W1,hW1⟩:∃W1,W1=w.alloc (.cells #[.int .i64 0,.string ⟨#[]⟩,.int .i64 0,.float .f64 0,.bool false,.slice none 0 0] 40):=⟨_,rfl⟩;have hb1:Below w.heap.size w W1:=by rw [hW1];exact (Below.refl _ _).alloc (Nat.le_refl _) _
 have hs1:W1.heap.size=w.heap.size+1:=by rw [hW1];simp
 have hC:∀q u,#[.int .i64 0,.string ⟨#[]⟩,.int .i64 0,.float .f64 0,.bool false,.slice none 0 0][q]?=some u->W1.cell? ⟨w.heap.size,q,none⟩=some u:=fun q u h=>by rw [hW1,World.cell?_alloc_new];exact h
 have hfC:Blk W1 w.heap.size:=by rw [hW1];exact Blk.new w _ _
 replace h:=h.below hb1;obtain ⟨rb,m,vb,tb,ns,h⟩:=h;have h1:=h.c1;obtain ⟨cs,hl,hv,hc⟩:=h.vals.look k;have hv:=hv.mono off_all;obtain ⟨a,cap,css,rfl,_⟩:=hv.out;rw [Cq] at hl;generalize (A1 s.es k).isSome=there at hl ⊢;generalize (A1 s.es k).getD V.zero=v at *;replace hv:=Hd hv;replace hc:=Hd hc;replace hb1:=Hd hb1;replace hC:=Hd hC;rw [hW1] at h1 hl;replace hW1:=Hd hW1;replace hs1:=Hd hs1;clear h
 go_enter Tryz.func21,Tryz.ntmps21
 go_wp2_with fail
 rw [<-hW1.out];refine (copy_anyK v _ _ _ _ _ _ _ _ _ (hv.out.mono (Aa ((Below.refl _ _).alloc (Nat.le_refl _) _))) hc.out).mono ?_;rintro e w2 ⟨a', cap', rfl,hr,hb2,hwr⟩;have hb2' : Below W1.heap.size W1 w2:=((Below.refl _ _).alloc (Nat.le_refl _) _).trans (hb2.mono (by simp));have g0:=Aa hb2' _ _ (hC.out 0 _ rfl);have g1:=Aa hb2' _ _ (hC.out 1 _ rfl);have g2:=Aa hb2' _ _ (hC.out 2 _ rfl);have g3:=Aa hb2' _ _ (hC.out 3 _ rfl);have g4:=Aa hb2' _ _ (hC.out 4 _ rfl);have g5:=Aa hb2' _ _ (hC.out 5 _ rfl);have fC:=hfC.of_block (hb2'.block _ (by rw [hs1.out];omega));have hrC:w2.rangeAt w.heap.size 0 [.int .i64 0,.string ⟨#[]⟩,.int .i64 0,.float .f64 0,.bool false,.slice none 0 0]:=Cj g0 g1 g2 g3 g4 g5;have htC:=At (n:=6) hrC fC rfl
 have hrR:(w2.setCells w.heap.size 0 [.int .i64 v.kind,.string v.text,.int .i64 v.int,.float .f64 v.real,.bool v.flag,.slice a' v.list.length cap']).rangeAt w.heap.size 0 [.int .i64 v.kind,.string v.text,.int .i64 v.int,.float .f64 v.real,.bool v.flag,.slice a' v.list.length cap']:=
   World.rangeAt_setCells_same _ _ _ _ htC
 have hfin:Fr (fun k=>k=w.heap.size) w2 (w2.setCells w.heap.size 0 [.int .i64 v.kind,.string v.text,.int .i64 v.int,.float .f64 v.real,.bool v.flag,.slice a' v.list.length cap']):=
   Fr.setCells (S:=fun k=>k=w.heap.size) (fun _=>rfl) _ _ _ (Fr.refl _ w2)
 have hbw:Below w.heap.size w w2:=hb1.out.trans (hb2'.mono (by rw [hs1.out];omega));replace hrC:=Hd hrC;replace htC:=Hd htC;replace hrR:=Hd hrR;replace hr:=Hd hr;replace hwr:=Hd hwr;clear g0 g1 g2 g3 g4 g5 hl h1
 go_wp2_with (first
   | (refine wpList_store_mid rfl 40 _ _ rfl w.heap.size 0 _ rfl rfl htC.out Ai (one6 _ _ _ _ _ _ _ _) ?_))
 refine bodyPost_ret (Cf (v:=.agg #[.int .i64 v.kind,.string v.text,.int .i64 v.int,.float .f64 v.real,.bool v.flag,.slice a' v.list.length cap']) rfl rfl (run_loadVar_mid (P:=Tryz.prog) _ _ 0 40 _ _ hrR.out Tryz.underlying40 rfl Ai)) rfl ⟨Aj v.kind v.text v.int v.real v.flag a' v.list.length cap', rfl,?_,?_,?_⟩
 · refine hr.out.mono (fun ad u h=>?_)
   obtain ⟨h1,h2⟩:=A5 h;have:w.heap.size<ad.block:=by have:=hs1.out;simp at h2;omega
   unfold Aq;rw [if_neg (by omega)];exact hfin.cell h1 (fun e=>by omega)
 · exact hbw.trans (hfin.below hbw.size (fun i hi h=>by omega))
 · intro ad n c he
   simp only [Aj,List.getElem?_cons_succ,List.getElem?_cons_zero,Option.some.injEq,Value.slice.injEq] at he;obtain ⟨q1,q2,q3⟩:=hwr.out ad he.1;have hsz:=hs1.out;simp at q2;exact ⟨q1,by omega,q3.fr hfin (fun h=>by omega)⟩
theorem near_forget {w:World} {nb rb m vb tb:Nat} {ns fp av:List Nat} {s:NS} (h:NStr w nb rb m vb tb ns fp av s.keys s) (k:ByteArray) :
   Calls Tryz.prog 69 #[P0 nb,.string k] w fun e w' => e=.returned (.bool (decide (k∈s.keys)))/\∃fp', Near w' nb fp' av { s with es:=s.es.filter (fun p=>p.1≠k) }/\Went w fp w' fp' := by
 have h1:=h.c1;obtain ⟨o,hrun,ho⟩:=h.vals.del k;obtain ⟨h2,hf2⟩:=h.setvals ho;have h3:=h2.c0;have hrc:=h2.rc;have hw2:Went w fp (setB w vb o) fp:=⟨hf2,fun _ h=>Or.inl h⟩;replace h2:=Hd h2;replace hw2:=Hd hw2;clear h hf2 ho
 go_enter Tryz.func69,Tryz.ntmps69
 go_wp2_with fail
 refine (drop_any hrc k).mono ?_;rintro e w1 ⟨rfl,ns', hrc', hf,hn⟩;clear hrun h3 h1;replace hrc' := Hd hrc';go_wp2;go_ret;obtain ⟨fp', h4,h5,h6⟩:=h2.out.ring hrc'.out hf (fun b hb=>by
   rcases List.mem_cons.1 hb with rfl | hb
   · simp
   · rcases hn b hb with h | h
     · simp [h]
     · exact Or.inr h)
 have hk:s.keys.filter (fun x=>x≠k)=NS.keys { s with es:=s.es.filter (fun p=>p.1≠k) }:=(C8 s.es k).symm
 rw [hk] at h4;exact ⟨rfl,fp', ⟨_,_,_,_,_,h4⟩,hw2.out.trans ⟨h5,h6⟩⟩
theorem near_begin {w:World} {nb:Nat} {fp av:List Nat} {s:NS} (h:Near w nb fp av s) (hl:s.last<=1000000000) (hl0:0<=s.last) (k:ByteArray) :
   Calls Tryz.prog 40 #[P0 nb,.string k] w fun e w' => e=.returned (.int .i64 (s.last+1))/\Near w' nb fp av (s.begin k)/\Went w fp w' fp:=by
 obtain ⟨rb,m,vb,tb,ns,h⟩:=h;have h3:=h.c3;have z3:=h.blk.frz 3 none;have hlt:=h.blk.lt;obtain ⟨W1,hW1⟩:∃W1,W1=w.setCell ⟨nb,3,none⟩ (.int .i64 (s.last+1)):=⟨_,rfl⟩;have hf1:Fr (·∈[nb]) w W1:=by rw [hW1];exact (Fr.refl _ w).setCell (fun _=>by show nb∈[nb];simp) _
 have hf1' : Fr (·∈fp) w W1:=hf1.mono (fun b _ hb=>by rw [h.efp];simp at hb ⊢;simp [hb])
 have hmm:∀b,b≠nb->¬b∈[nb]:=fun b hb hm=>hb (by simpa using hm);have same:∀o v,o≠3->w.cell? ⟨nb,o,none⟩=some v->W1.cell? ⟨nb,o,none⟩=some v:=fun o v ho hv=>by rw [hW1,Ab (by simp [Ne.symm ho])];exact hv
 have hn1:NStr W1 nb rb m vb tb ns fp av s.keys { s with last:=s.last+1 }:=
   ⟨h.efp,same _ _ (by omega) h.c0,same _ _ (by omega) h.c1,same _ _ (by omega) h.c2,by rw [hW1];exact Af h3,same _ _ (by omega) h.c4,by rw [hW1];exact h.blk.setCell _ _,
     h.rc.fr hf1 (fun b hb=>hmm b (fun e=>h.apart nb (by simp) (e ▸ hb))),h.vals.of_block (hf1.block _ h.vals.lt (hmm vb h.nv.symm)) (off_fr hf1' (fun _ hb=>Or.inl hb)),h.tix.of_block (hf1.block _ h.tix.lt (hmm tb h.nt.symm)),
     h.apart,h.nv,h.nt,h.vt,fun p hp=>by have:=h.tlt p hp;show p.1<=s.last+1;omega,h.most0,Eb h.avlt hf1.size⟩
 have hnot:s.last+1 ∉ s.ts.map (·.1):=fun hm=>by
   obtain ⟨p,hp,e⟩:=List.mem_map.1 hm;have:=h.tlt p hp;omega
 have d2:=hn1.c2;have d3:=hn1.c3;replace hn1:=hn1.fr (w' := W1.drew) (S:=fun _=>False) ((Fr.refl _ _).drew) (fun _ _ h=>h) (fun a u h=>h);obtain ⟨o,hrun,ho⟩:=hn1.tix.put (s.last+1) k hnot;obtain ⟨hn2,hf2⟩:=hn1.settix ho (fun p hp=>by
   rcases List.mem_append.1 hp with hp | hp
   · have:=h.tlt p hp;show p.1<=s.last+1;omega
   · simp at hp;subst hp;exact Int.le_refl _)
 have e3:=hn2.c3;have hfin:Went w fp (setB W1.drew tb o) fp:=⟨hf1'.drew.trans hf2,fun _ hb=>Or.inl hb⟩;simp only at d3 e3;rw [hW1] at d2 d3 hrun e3;replace hn2:=Hd hn2;replace hfin:=Hd hfin;replace hW1:=Hd hW1;clear h hn1 hf2 ho hf1 hf1' same hnot hmm
 go_enter Tryz.func40,Tryz.ntmps40
 go_wp2
 go_region
 all_goals
   go_wp2
   go_ret
   rw [<-hW1.out]
   exact ⟨rfl,⟨_,_,_,_,_,hn2.out⟩,hfin.out⟩
theorem NStr.reorder {w:World} {nb rb m vb tb:Nat} {ns fp av:List Nat} {ks:List ByteArray} {s:NS} (h:NStr w nb rb m vb tb ns fp av ks s) {es' : List (ByteArray × V)} (hp:s.es.Perm es'):NStr w nb rb m vb tb ns fp av ks { s with es:=es' }:=
 ⟨h.efp,h.c0,h.c1,h.c2,h.c3,h.c4,h.blk,h.rc,h.vals.perm hp,h.tix,h.apart,h.nv,h.nt,h.vt,h.tlt,h.most0,h.avlt⟩
set_option maxRecDepth 100000 in
theorem near_getK {w:World} {nb:Nat} {fp av:List Nat} {s:NS} (h:Near w nb fp av s) (k:ByteArray) :
   Calls Tryz.prog 38 #[P0 nb,.string k] w fun e w' => ∃(cs:List Value) (fp' : List Nat),e=.returned (.tuple #[.agg cs.toArray,.bool (A1 s.es k).isSome])/\RV (Aq w.heap.size w') cs ((A1 s.es k).getD V.zero) /\
     Near w' nb fp' av (s.get k)/\Went w fp w' fp' /\ Kept w w' nb/\Writ (w.heap.size+1) w' cs/\∀ad n c,cs[5]?=some (.slice (some ad) n c)->ad.block ∉ fp' := by
 obtain ⟨W1,hW1⟩:∃W1,W1=w.alloc (.cells #[.int .i64 0,.string ⟨#[]⟩,.int .i64 0,.float .f64 0,.bool false,.slice none 0 0] 40):=⟨_,rfl⟩;have hb1:Below w.heap.size w W1:=by rw [hW1];exact (Below.refl _ _).alloc (Nat.le_refl _) _
 have hs1:W1.heap.size=w.heap.size+1:=by rw [hW1];simp
 have hC:∀q u,#[.int .i64 0,.string ⟨#[]⟩,.int .i64 0,.float .f64 0,.bool false,.slice none 0 0][q]?=some u->W1.cell? ⟨w.heap.size,q,none⟩=some u:=fun q u h=>by rw [hW1,World.cell?_alloc_new];exact h
 have hfC:Blk W1 w.heap.size:=by rw [hW1];exact Blk.new w _ _
 have h1:=h.below hb1;replace hb1:=Hd hb1;replace hC:=Hd hC;replace hW1:=Hd hW1;replace hs1:=Hd hs1;replace h:=Hd h
 go_enter Tryz.func38,Tryz.ntmps38
 go_wp2_with fail
 rw [<-hW1.out];refine (near_peekK h1 k).mono ?_;rintro e w2 ⟨cs,rfl,hr,hb2,hwr⟩;obtain ⟨a,cap,css,rfl,_⟩:=hr.out;rw [Cq];have g0:=Aa hb2 _ _ (hC.out 0 _ rfl);have g1:=Aa hb2 _ _ (hC.out 1 _ rfl);have g2:=Aa hb2 _ _ (hC.out 2 _ rfl);have g3:=Aa hb2 _ _ (hC.out 3 _ rfl);have g4:=Aa hb2 _ _ (hC.out 4 _ rfl);have g5:=Aa hb2 _ _ (hC.out 5 _ rfl);have fC:=hfC.of_block (hb2.block _ (by rw [hs1.out];omega));have hbw:Below w.heap.size w w2:=hb1.out.trans (hb2.mono (by rw [hs1.out];omega));have hs2:w.heap.size+1<=w2.heap.size:=by rw [<-hs1.out];exact hb2.size
 have h2:=h1.below hb2;have hlt:=h.out.lt
 have fin:∀(v:V),(A1 s.es k).getD V.zero=v->∀(w4:World),Fr (·∈fp) (w2.alloc (.cells #[.int .i64 v.kind,.string v.text,.int .i64 v.int,.float .f64 v.real,.bool v.flag,.slice a v.list.length cap] 40)) w4 ->
     w4.rangeAt w2.heap.size 0 (agg6 v a cap)/\w4.rangeAt w.heap.size 0 zero6/\w4.there w.heap.size 0 6 /\
     (w4.setCells w.heap.size 0 (agg6 v a cap)).rangeAt w.heap.size 0 (agg6 v a cap)/\RV (Aq w.heap.size (w4.setCells w.heap.size 0 (agg6 v a cap))) (Aj v.kind v.text v.int v.real v.flag a v.list.length cap) v /\
     Fr (fun b=>b=w.heap.size) w4 (w4.setCells w.heap.size 0 (agg6 v a cap)):=by
   rintro v rfl w4 hf4
   have n0:w.heap.size ∉ fp:=fun h=>by have:=hlt _ h;omega
   have n2:w2.heap.size ∉ fp:=fun h=>by have:=hlt _ h;omega
   have ab:∀o:Obj,Below w2.heap.size w2 (w2.alloc o):=fun o=>(Below.refl _ _).alloc (Nat.le_refl _) _
   have k0:w4.rangeAt w.heap.size 0 zero6:=Cj (hf4.cell (Aa (ab _) _ _ g0) n0) (hf4.cell (Aa (ab _) _ _ g1) n0) (hf4.cell (Aa (ab _) _ _ g2) n0) (hf4.cell (Aa (ab _) _ _ g3) n0) (hf4.cell (Aa (ab _) _ _ g4) n0) (hf4.cell (Aa (ab _) _ _ g5) n0)
   have k2:w4.rangeAt w2.heap.size 0 (agg6 ((A1 s.es k).getD V.zero) a cap):=Cj (hf4.cell (by simp) n2) (hf4.cell (by simp) n2) (hf4.cell (by simp) n2) (hf4.cell (by simp) n2) (hf4.cell (by simp) n2) (hf4.cell (by simp) n2)
   have kb:Blk w4 w.heap.size:=(fC.fr (S:=fun _=>False) ((Fr.refl _ _).alloc _) (fun h=>h)).fr hf4 n0
   have kt:=At (n:=6) k0 kb rfl
   have kf:Fr (fun b=>b=w.heap.size) w4 (w4.setCells w.heap.size 0 (agg6 ((A1 s.es k).getD V.zero) a cap)):=Fr.setCells (S:=fun b=>b=w.heap.size) (fun _=>rfl) _ _ _ (Fr.refl _ w4)
   refine ⟨k2,k0,kt,World.rangeAt_setCells_same _ _ _ _ kt,?_,kf⟩
   refine hr.mono (fun ad u h=>?_)
   obtain ⟨h1,h2⟩:=A5 h
   rw [hs1.out] at h2
   unfold Aq
   rw [if_neg (by omega)]
   exact kf.cell (hf4.cell (Aa (ab _) _ _ h1) (fun h=>by have:=hlt _ h;omega)) (by show ¬ad.block=_;omega)
 clear g0 g1 g2 g3 g4 g5;have hzl:A1 s.es k=none->s.get k=s:=fun e=>by simp [NS.get,e]
 have hsl:(A1 s.es k).isSome=true->s.get k={ s with es:=putE s.es k ((A1 s.es k).getD V.zero) }/\(k,(A1 s.es k).getD V.zero)∈s.es:=fun e=>by
   obtain ⟨v,hv⟩:=Option.isSome_iff_exists.1 e;have h1:=lookE_mem hv;simp [NS.get,hv,h1,putE]
 generalize hv:(A1 s.es k).getD V.zero=v at *;replace fin:=Hd (fin v rfl);replace hr:=Hd hr;replace hv:=Hd hv;replace hwr:=Hd hwr;cases hlk:A1 s.es k with
 | none=>
   obtain ⟨r1,r2,r3,r4,r5,r6⟩:=fin.out _ (Fr.refl _ _);have hg:=Hd (hzl hlk);replace r1:=Hd r1;replace r2:=Hd r2;replace r3:=Hd r3;replace r4:=Hd r4;clear h1 hzl hsl
   go_wp2_with (first
     | (refine wpList_load_mid rfl 40 _ rfl w2.heap.size 0 rfl _ _ r1.out Tryz.underlying40 rfl Ai ?_)
     | (refine wpList_store_mid rfl 40 _ _ rfl w.heap.size 0 _ rfl rfl r3.out Ai (one6 _ _ _ _ _ _ _ _) ?_))
   refine bodyPost_ret (Cf (v:=.agg #[.int .i64 v.kind,.string v.text,.int .i64 v.int,.float .f64 v.real,.bool v.flag,.slice a v.list.length cap]) rfl rfl (run_loadVar_mid (P:=Tryz.prog) _ _ 0 40 _ _ r4.out Tryz.underlying40 rfl Ai)) rfl ⟨Aj v.kind v.text v.int v.real v.flag a v.list.length cap,fp,by rw [hlk];rfl,by rw [hv.out];exact r5,?_⟩;have hbe:Below w.heap.size w (w2.alloc (.cells #[.int .i64 v.kind,.string v.text,.int .i64 v.int,.float .f64 v.real,.bool v.flag,.slice a v.list.length cap] 40) |>.setCells w.heap.size 0 (agg6 v a cap)):=
     (hbw.alloc hbw.size _).trans (r6.below (by simp;omega) (fun i hi h=>by omega))
   rw [hg.out];exact ⟨h.out.below hbe,Went.of_below hbe,Kept.of_below hbe,fun ad n c he=>by
     obtain ⟨q1,q2,q3⟩:=hwr.out ad n c he;have hsz:=hs1.out;exact ⟨q1,by omega,(q3.of_block (((Below.refl w2.heap.size w2).alloc (Nat.le_refl _) _).block _ q3.lt)).fr r6 (fun h=>by omega)⟩,fun ad n c he hm=>by
     obtain ⟨q1,q2,q3⟩:=hwr.out ad n c he;have hsz:=hs1.out;have:=hlt _ hm;omega⟩
 | some v' =>
   obtain ⟨e1,e2⟩:=hsl (by rw [hlk];rfl);replace e1:=Hd e1;obtain ⟨rb,m,vb,tb,ns,hN⟩:=h.out;obtain ⟨W3,hW3⟩:∃W3,W3=w2.alloc (.cells #[.int .i64 v.kind,.string v.text,.int .i64 v.int,.float .f64 v.real,.bool v.flag,.slice a v.list.length cap] 40):=⟨_,rfl⟩;have hb3:Below w.heap.size w W3:=by rw [hW3];exact hbw.alloc hbw.size _
   have hs3:W3.heap.size=w2.heap.size+1:=by rw [hW3];simp
   have hN3:=hN.below hb3;have q0:=hN3.c0;have hrc:=hN3.rc;have hput:=Hd (put_perm hN.vals.nodup e2);replace hN:=Hd hN;replace hN3:=Hd hN3;replace hb3:=Hd hb3;rw [<-hW3] at fin;rw [hW3] at q0;replace hW3:=Hd hW3;clear h1 hzl hsl h2 e2;go_wp2_with fail
   rw [<-hW3.out];refine (touch_any hrc k).mono ?_;rintro e w4 ⟨rfl,ns', hrc', hf4,hn4⟩;have hfp:∀b,b∈rb :: m :: ns->b∈fp:=fun b hb=>by rw [hN.out.efp];simp at hb ⊢;rcases hb with h | h | h<;>simp [h]
   obtain ⟨r1,r2,r3,r4,r5,r6⟩:=fin.out w4 (hf4.mono (fun b _ hb=>hfp b hb));replace r1:=Hd r1;replace r2:=Hd r2;replace r3:=Hd r3;replace r4:=Hd r4;replace hrc' := Hd hrc';clear hrc q0
   go_wp2_with (first
     | (refine wpList_load_mid rfl 40 _ rfl w2.heap.size 0 rfl _ _ r1.out Tryz.underlying40 rfl Ai ?_)
     | (refine wpList_store_mid rfl 40 _ _ rfl w.heap.size 0 _ rfl rfl r3.out Ai (one6 _ _ _ _ _ _ _ _) ?_))
   have hnew:∀b∈m :: ns', b∈m :: ns\/w2.heap.size+1<=b:=fun b hb=>by
     rcases List.mem_cons.1 hb with rfl | hb
     · simp
     · rcases hn4 b hb with h | h
       · simp [h]
       · rw [hs3] at h;exact Or.inr h
   have hrc5:=hrc'.out.fr r6 (fun b hb e=>by
     have hb' : b=rb\/b∈m :: ns' := by simpa using hb
     rcases hb' with h | h
     · have:=hlt b (hfp b (by simp [h]));omega
     · rcases hnew b h with h | h
       · have:=hlt b (hfp b (List.mem_cons_of_mem _ h));omega
       · omega)
   have hf5:Fr (·∈rb :: m :: ns) w (w4.setCells w.heap.size 0 (agg6 v a cap)):=(((Fr.of_below hb3.out).mono (fun i hi h=>absurd h (by omega))).trans hf4).trans_new r6 (fun i hi h=>absurd h (by omega))
   obtain ⟨fp', hn5,hw5,hw6⟩:=hN.out.ring hrc5 hf5 (fun b hb=>by
     rcases hnew b hb with h | h
     · exact Or.inl h
     · exact Or.inr (by omega))
   refine bodyPost_ret (Cf (v:=.agg #[.int .i64 v.kind,.string v.text,.int .i64 v.int,.float .f64 v.real,.bool v.flag,.slice a v.list.length cap]) rfl rfl (run_loadVar_mid (P:=Tryz.prog) _ _ 0 40 _ _ r4.out Tryz.underlying40 rfl Ai)) rfl ⟨Aj v.kind v.text v.int v.real v.flag a v.list.length cap,fp', by rw [hlk];rfl,by rw [hv.out];exact r5,⟨rb,m,vb,tb,ns', ?_⟩,⟨hw5,hw6⟩,fun vb' hc hv' => ?_,fun ad n c he=>?_,fun ad n c he hm=>?_⟩
   · rw [e1.out]
     have:=hn5.reorder hput.out;rw [show Bn s.keys k=NS.keys { s with es:=putE s.es k v } from (C9 s.es k v).symm] at this
     exact this
   · have h1:=hN.out.c1
     rw [hc] at h1;cases h1
     exact ⟨hn5.c1,hf5.block _ hv' (hN.out.apart _ (by simp))⟩
   · obtain ⟨q1,q2,q3⟩:=hwr.out ad n c he
     have hsz:=hs1.out;refine ⟨q1,by omega,((q3.of_block (w' := W3) (by rw [hW3.out];exact ((Below.refl w2.heap.size w2).alloc (Nat.le_refl _) _).block _ q3.lt)).fr hf4 (fun h=>by have:=hlt _ (hfp _ h);omega)).fr r6 (fun h=>by omega)⟩
   · obtain ⟨q1,q2,q3⟩:=hwr.out ad n c he
     have hsz:=hs1.out;have hlt3:=q3.lt;rw [hn5.efp] at hm;have h5:=fun b (hb:b∈nb :: rb :: vb :: tb :: [])=>hlt b (by rw [hN.out.efp];simp at hb ⊢;rcases hb with h | h | h | h<;>simp [h])
     have hm' : ad.block∈nb :: rb :: vb :: tb :: []\/ad.block∈m :: ns' := by
       simp only [List.mem_cons] at hm ⊢;rcases hm with h | h | h | h | h | h<;>simp [h]
     rcases hm' with h | h
     · have:=h5 _ h;omega
     · rcases hnew _ h with h | h
       · have:=hlt _ (hfp _ (List.mem_cons_of_mem _ h));omega
       · omega
theorem near_get {w:World} {nb:Nat} {fp av:List Nat} {s:NS} (h:Near w nb fp av s) (k:ByteArray) :
   Calls Tryz.prog 38 #[P0 nb,.string k] w fun e w' => ∃(cs:List Value) (fp' : List Nat),e=.returned (.tuple #[.agg cs.toArray,.bool (A1 s.es k).isSome])/\RV (Aq w.heap.size w') cs ((A1 s.es k).getD V.zero) /\
     Near w' nb fp' av (s.get k)/\Went w fp w' fp' := (near_getK h k).mono fun e w' ⟨cs,fp', h1,h2,h3,h4,_,_,_⟩=>⟨cs,fp', h1,h2,h3,h4⟩
theorem NStr.drewN {w:World} {nb rb m vb tb:Nat} {ns fp av:List Nat} {ks:List ByteArray} {s:NS} (h:NStr w nb rb m vb tb ns fp av ks s) (n:Nat):NStr (w.drewN n) nb rb m vb tb ns fp av ks s:=
 h.below (Below.drewN (Below.refl _ _))
theorem near_fill_no {w:World} {nb:Nat} {fp av:List Nat} {s:NS} (h:Near w nb fp av s) (t:Int) {a:Option Addr} {cap:Nat} {v:V} (hno:s.fills t=false) :
   Calls Tryz.prog 59 #[P0 nb,.int .i64 t,.agg #[.int .i64 v.kind,.string v.text,.int .i64 v.int,.float .f64 v.real,.bool v.flag,.slice a v.list.length cap]] w fun e w' => e=.returned (.bool false)/\Near w' nb fp av (s.without t)/\Went w fp w' fp:=by
 obtain ⟨W1,hW1⟩:∃W1,W1=w.alloc (.cells #[.int .i64 v.kind,.string v.text,.int .i64 v.int,.float .f64 v.real,.bool v.flag,.slice a v.list.length cap] 40):=⟨_,rfl⟩;have hb1:Below w.heap.size w W1:=by rw [hW1];exact (Below.refl _ _).alloc (Nat.le_refl _) _
 replace h:=h.below hb1;obtain ⟨rb,m,vb,tb,ns,h⟩:=h;have h2:=h.c2;have hlook:=h.tix.look t;obtain ⟨o,hdel,ho⟩:=h.tix.del t;obtain ⟨hn2,hf2⟩:=h.settix ho (fun p hp=>h.tlt p (List.mem_filter.1 hp).1);have h4:=hn2.c4;have h2' := hn2.c2;rw [hW1] at h2 hlook hdel h4 h2';have hfin:Went w fp (setB W1 tb o) fp:=(Went.of_below hb1).trans ⟨hf2,fun _ h=>Or.inl h⟩;simp only [NS.fills,Bool.and_eq_false_iff,decide_eq_false_iff_not,Decidable.not_not] at hno;replace hn2:=Hd hn2;replace hfin:=Hd hfin;replace hW1:=Hd hW1;replace hb1:=Hd hb1;cases hl:Dn s.ts t with
 | none=>
   rw [hl] at hlook hno;clear h hf2 ho hno hl
   go_enter Tryz.func59,Tryz.ntmps59
   go_wp2;go_ret;rw [<-hW1.out];exact ⟨rfl,⟨_,_,_,_,_,hn2.out⟩,hfin.out⟩
 | some k=>
   rw [hl] at hlook hno;simp only [Option.isSome_some,Bool.true_eq_false,false_or] at hno;rw [hno] at h4;clear h hf2 ho hno hl
   go_enter Tryz.func59,Tryz.ntmps59
   go_wp2;go_ret;rw [<-hW1.out];exact ⟨rfl,⟨_,_,_,_,_,hn2.out⟩,hfin.out⟩
set_option maxHeartbeats 1600000 in
set_option maxRecDepth 100000 in
theorem F3 {w:World} {nb:Nat} {fp av:List Nat} {s:NS} (h:Near w nb fp av s) (t:Int) {a:Option Addr} {cap:Nat} {v:V} {k:ByteArray} (hl:Dn s.ts t=some k) (hmost:s.most≠0)
   (hv:RV w.cell? (Aj v.kind v.text v.int v.real v.flag a v.list.length cap) v) (hc:v.count<=100000000) :
   Calls Tryz.prog 59 #[P0 nb,.int .i64 t,.agg #[.int .i64 v.kind,.string v.text,.int .i64 v.int,.float .f64 v.real,.bool v.flag,.slice a v.list.length cap]] w fun e w' => ∃fp', e=.returned (.bool true)/\Near w' nb fp' av ((s.without t).put k v)/\Went w fp w' fp' := by
 obtain ⟨W1,hW1⟩:∃W1,W1=w.alloc (.cells #[.int .i64 v.kind,.string v.text,.int .i64 v.int,.float .f64 v.real,.bool v.flag,.slice a v.list.length cap] 40):=⟨_,rfl⟩;have hb1:Below w.heap.size w W1:=by rw [hW1];exact (Below.refl _ _).alloc (Nat.le_refl _) _
 have hlt:=h.lt;have hn0:w.heap.size ∉ fp:=fun hm=>by have:=hlt _ hm;omega
 replace h:=h.below hb1;obtain ⟨rb,m,vb,tb,ns,h⟩:=h;have h2:=h.c2;have hlook:=h.tix.look t;rw [hl] at hlook;obtain ⟨o,hdel,ho⟩:=h.tix.del t;obtain ⟨hn2,hf2⟩:=h.settix ho (fun p hp=>h.tlt p (List.mem_filter.1 hp).1);have hs2:(setB W1 tb o).heap.size=w.heap.size+1:=by rw [hW1];simp [Proofs.YtfaihaoajdcjbaaGreatDoor.setB]
 obtain ⟨W2,hW2⟩:∃W2,W2=setB W1 tb o:=⟨_,rfl⟩;rw [<-hW2] at hn2 hf2 hs2;have hB:∀q u,#[.int .i64 v.kind,.string v.text,.int .i64 v.int,.float .f64 v.real,.bool v.flag,.slice a v.list.length cap][q]?=some u->W2.cell? ⟨w.heap.size,q,none⟩=some u:=fun q u h=>hf2.cell (by rw [hW1,World.cell?_alloc_new];exact h) hn0;have hfin:Went w fp W2 fp:=(Went.of_below hb1).trans ⟨hf2,fun _ h=>Or.inl h⟩;have h4:=hn2.c4;have h1:=hn2.c1;have hv2:RV W2.cell? (Aj v.kind v.text v.int v.real v.flag a v.list.length cap) v:=hv.mono (fun ad u hu=>by
   have hu1:=Aa hb1 _ _ hu;obtain ⟨l,hl1,_⟩:=h.tix;rw [hW2,B6 (hl1.ncell hu1)];exact hu1)
 simp only at h4;have hBd:∀q u,#[.int .i64 v.kind,.string v.text,.int .i64 v.int,.float .f64 v.real,.bool v.flag,.slice a v.list.length cap][q]?=some u->W2.drew.cell? ⟨w.heap.size,q,none⟩=some u:=hB;have h4' := h4;rw [hW2,hW1] at h4;rw [hW1] at h2 hlook hdel;have hve:vb≠w.heap.size:=fun e=>hn0 (e ▸ by rw [h.efp];simp);have hd1:W2.drew.cell? ⟨nb,1,none⟩=some (.map (some vb)):=h1;have hnv:=hn2.nv
 have hbS:∀w', Below W2.drew.heap.size W2.drew w' -> (w'.cell? ⟨nb,1,none⟩=some (.map (some vb))/\w'.cell? ⟨w.heap.size,0,none⟩=some (.int .i64 v.kind)/\w'.cell? ⟨w.heap.size,1,none⟩=some (.string v.text)/\w'.cell? ⟨w.heap.size,2,none⟩=some (.int .i64 v.int) /\
     w'.cell? ⟨w.heap.size,3,none⟩=some (.float .f64 v.real)/\w'.cell? ⟨w.heap.size,4,none⟩=some (.bool v.flag)/\w'.cell? ⟨w.heap.size,5,none⟩=some (.slice a v.list.length cap)):=fun w' hb=>
   ⟨Aa hb _ _ hd1,Aa hb _ _ (hBd 0 _ rfl),Aa hb _ _ (hBd 1 _ rfl),Aa hb _ _ (hBd 2 _ rfl),Aa hb _ _ (hBd 3 _ rfl),Aa hb _ _ (hBd 4 _ rfl),Aa hb _ _ (hBd 5 _ rfl)⟩
 have hbS2:∀w' o,Below W2.drew.heap.size W2.drew w' -> ((setB w' vb o).cell? ⟨nb,1,none⟩=some (.map (some vb))/\(setB w' vb o).cell? ⟨w.heap.size,0,none⟩=some (.int .i64 v.kind)/\(setB w' vb o).cell? ⟨w.heap.size,1,none⟩=some (.string v.text)/\(setB w' vb o).cell? ⟨w.heap.size,2,none⟩=some (.int .i64 v.int) /\
     (setB w' vb o).cell? ⟨w.heap.size,3,none⟩=some (.float .f64 v.real)/\(setB w' vb o).cell? ⟨w.heap.size,4,none⟩=some (.bool v.flag)/\(setB w' vb o).cell? ⟨w.heap.size,5,none⟩=some (.slice a v.list.length cap)):=fun w' o hb=>by
   have k1:∀q u,w'.cell? ⟨w.heap.size,q,none⟩=some u->(setB w' vb o).cell? ⟨w.heap.size,q,none⟩=some u:=fun q u h=>by rw [B6 (show vb≠(⟨w.heap.size,q,none⟩:Addr).block from hve)];exact h
   obtain ⟨q0,q1,q2,q3,q4,q5,q6⟩:=hbS w' hb
   exact ⟨by rw [B6 (show vb≠(⟨nb,1,none⟩:Addr).block from fun e=>hnv e.symm)];exact q0,k1 _ _ q1,k1 _ _ q2,k1 _ _ q3,k1 _ _ q4,k1 _ _ q5,k1 _ _ q6⟩
 replace hn2:=Hd hn2;replace hfin:=Hd hfin;replace hW1:=Hd hW1;replace hW2:=Hd hW2;replace hb1:=Hd hb1;replace hv2:=Hd hv2;replace hc:=Hd hc;have hn2d:=Hd (hn2.out.fr (w' := W2.drew) (S:=fun _=>False) ((Fr.refl _ _).drew) (fun _ _ h=>h) (fun a u h=>h));have hlt2:=Hd hn2.out.lt;have hav2:=Hd hn2.out.avlt;have hS0:=hbS W2.drew (Below.refl _ _);replace hbS:=Hd hbS;replace hbS2:=Hd hbS2;clear h hf2 ho hl hB hBd
 go_enter Tryz.func59,Tryz.ntmps59
 go_wp2;rw [<-hW1.out,<-hW2.out]
 go_region_held3 (fun w' => w'.cell? ⟨nb,1,none⟩=some (.map (some vb))/\w'.cell? ⟨w.heap.size,0,none⟩=some (.int .i64 v.kind)/\w'.cell? ⟨w.heap.size,1,none⟩=some (.string v.text)/\w'.cell? ⟨w.heap.size,2,none⟩=some (.int .i64 v.int) /\
     w'.cell? ⟨w.heap.size,3,none⟩=some (.float .f64 v.real)/\w'.cell? ⟨w.heap.size,4,none⟩=some (.bool v.flag)/\w'.cell? ⟨w.heap.size,5,none⟩=some (.slice a v.list.length cap))
   (first | exact hS0 | exact hbS.out _ (by assumption) | exact hbS2.out _ _ (by assumption))
   (first
     | (go_at_call 48;refine (copy_any v _ _ _ _ _ _ _ _ W2.drew (hv2.out.mono (fun a u h=>h)) hc.out).mono ?_;rintro e w3 ⟨a', cap', rfl,hr,hb3⟩;obtain ⟨o3,hrun,ho3⟩:=(hn2d.out.below hb3).vals.put k (Aj v.kind v.text v.int v.real v.flag a' v.list.length cap');rw [Cq] at hrun))
 have hnd:=Hd (hn2.out.vals.nodup);have hn3:=(hn2d.out.below hb3).setvals (fun W fp' hW hm=>ho3 W fp' v hW hm ((hr.mono (newer_off (fun b hb=>(List.mem_append.1 hb).elim (fun h=>hlt2.out b h) (fun h=>hav2.out b h)))).mono hm) hc.out);have hfin3:Went w fp (setB w3 vb o3) fp:=(hfin.out.trans (Went.of_below ((Below.refl _ _).drew.trans hb3))).trans ⟨hn3.2,fun _ h=>Or.inl h⟩;replace hn3:=hn3.1;have d0:=hn3.c0;have hrc:=hn3.rc;replace hn3:=Hd hn3;replace hfin3:=Hd hfin3;clear hS0 hd1 hrun ho3 hlook hdel h4 h4' h1 h2;go_wp2_with fail
 refine (touch_any hrc k).mono ?_;rintro e w4 ⟨rfl,ns', hrc', hf4,hnew4⟩;obtain ⟨fp4,hn4,hw4,hw4'⟩:=hn3.out.ring hrc' hf4 (fun b hb=>by
   rcases List.mem_cons.1 hb with rfl | hb
   · simp
   · rcases hnew4 b hb with h | h
     · simp [h]
     · exact Or.inr h)
 have hfin4:Went w fp w4 fp4:=hfin3.out.trans ⟨hw4,hw4'⟩;have e0:=hn4.c0;replace hn4:=Hd hn4;replace hfin4:=Hd hfin4;clear d0 hrc hf4 hw4 hw4' hnew4;go_wp2_with fail
 refine (oldest_any hrc' k).mono ?_;rintro e w5 ⟨rfl,n5,rfl⟩;rw [oldest_touch];clear hrc' e0;have hn5:=hn4.out.drewN n5;have hfin5:Went w fp (w4.drewN n5) fp4:=hfin4.out.trans (Went.of_below (Below.drewN (Below.refl _ _)));have c4:=hn5.c4;have hks:Bn s.keys k=NS.keys { (s.without t) with es:=putE s.es k v }:=(C9 s.es k v).symm
 rw [hks] at hn5;clear hks hn4 hfin4;generalize w4.drewN n5=w5 at *;have hm0:=hn5.most0;have hlen:=fun n=>near_len (⟨_,_,_,_,_,hn5.drewN n⟩:Near (w5.drewN n) nb fp4 av _);have hpl:(putE s.es k v).length=(s.keys.filter (fun x=>x≠k)).length+1:=by
   have h1:=congrArg List.length (C9 s.es k v);simp only [List.length_map,Bn,List.length_append,List.length_singleton] at h1;exact h1
 simp only at c4 hm0;replace hn5:=Hd hn5;replace hfin5:=Hd hfin5;have hmost1:0<s.most:=by have:(NS.most { (s.without t) with es:=putE s.es k v })=s.most:=rfl;omega
 have hput:(s.without t).put k v={ (s.without t) with es:=if s.most<(putE s.es k v).length then (putE s.es k v).tail else putE s.es k v }:=rfl
 replace hput:=Hd hput;cases hf:s.keys.filter (fun x=>x≠k) with
 | nil=>
   rw [hf] at hpl;have hle:¬s.most<((putE s.es k v).length:Int):=by rw [hpl];simp;omega
   replace hle:=Hd hle;replace hpl:=Hd hpl;replace hf:=Hd hf;go_wp2
   go_quiet ((go_at_call 25;exact Calls.quiet_of_same (hlen _)))
   go_wp2;go_ret;rw [hput.out,if_neg (Int.not_lt.2 hle.out)];exact ⟨fp4,rfl,⟨_,_,_,_,_,hn5.out.drewN _⟩,hfin5.out.trans (Went.of_below (Below.drewN (Below.refl _ _)))⟩
 | cons x rest=>
   obtain ⟨p,r,hpr,hpx⟩:∃p r,putE s.es k v=p :: r/\p.1=x:=by
     have h1:=C9 s.es k v;rw [Bn,show (s.es.map (·.1)).filter (fun x=>x≠k)=x :: rest from hf] at h1
     cases hp:putE s.es k v with
     | nil=>rw [hp] at h1;cases h1
     | cons p r=>rw [hp] at h1;simp at h1;exact ⟨p,r,rfl,h1.1⟩
   have hnd5:=hn5.out.vals.nodup;have hfh:=filter_head hnd5 hpr;rw [hpx] at hfh;replace hpl:=Hd hpl;replace hf:=Hd hf;replace hfh:=Hd hfh;replace hpr:=Hd hpr;replace hnd5:=Hd hnd5;have hcl:((putE s.es k v).length:Int)=(NS.es { (s.without t) with es:=putE s.es k v }).length:=rfl
   by_cases hlt5:s.most<((putE s.es k v).length:Int)
   · go_wp2
     go_quiet ((go_at_call 25;exact Calls.quiet_of_same (hlen _)))
     go_wp2_with fail
     refine (near_forget (hn5.out.drewN _) x).mono ?_;rintro e w6 ⟨rfl,fp6,hn6,hw6⟩;clear hlen c4;replace hn6:=Hd hn6;go_wp2;go_ret;refine ⟨fp6,rfl,?_,(hfin5.out.trans (Went.of_below (Below.drewN (Below.refl _ _)))).trans hw6⟩;rw [hput.out,if_pos hlt5,hpr.out];have:=hn6.out;simp only [hfh.out] at this;exact this
   · go_wp2
     go_quiet ((go_at_call 25;exact Calls.quiet_of_same (hlen _)))
     go_wp2;go_ret;rw [hput.out,if_neg (Int.not_lt.2 hlt5)];exact ⟨fp4,rfl,⟨_,_,_,_,_,hn5.out.drewN _⟩,hfin5.out.trans (Went.of_below (Below.drewN (Below.refl _ _)))⟩
theorem near_fill {w:World} {nb:Nat} {fp av:List Nat} {s:NS} (h:Near w nb fp av s) (t:Int) {a:Option Addr} {cap:Nat} {v:V}
   (hv:RV w.cell? (Aj v.kind v.text v.int v.real v.flag a v.list.length cap) v) (hc:v.count<=100000000) :
   Calls Tryz.prog 59 #[P0 nb,.int .i64 t,.agg #[.int .i64 v.kind,.string v.text,.int .i64 v.int,.float .f64 v.real,.bool v.flag,.slice a v.list.length cap]] w fun e w' => ∃fp', e=.returned (.bool (s.fills t))/\Near w' nb fp' av (s.fill t v)/\Went w fp w' fp' := by
 by_cases hf:s.fills t=false
 · refine (near_fill_no h t hf).mono ?_
   rintro e w' ⟨rfl,h1,h2⟩;refine ⟨fp,by rw [hf],?_,h2⟩;simp only [NS.fills,Bool.and_eq_false_iff,decide_eq_false_iff_not,Decidable.not_not] at hf;cases hl:Dn s.ts t with
   | none=>simpa [NS.fill,hl] using h1
   | some k=>rw [hl] at hf;simp at hf;simpa [NS.fill,hl,hf] using h1
 · simp only [Bool.not_eq_false] at hf
   have hf0:=hf;simp only [NS.fills,Bool.and_eq_true,decide_eq_true_eq] at hf;obtain ⟨k,hl⟩:=Option.isSome_iff_exists.1 hf.1;refine (F3 h t hl hf.2 hv hc).mono ?_;rintro e w' ⟨fp', rfl,h1,h2⟩;refine ⟨fp', by rw [hf0],?_,h2⟩;simpa [NS.fill,hl,hf.2] using h1
theorem near_clear {w:World} {nb:Nat} {fp av:List Nat} {s:NS} (h:Near w nb fp av s) :
   Calls Tryz.prog 44 #[P0 nb] w fun e w' => ∃fp', e=.returned (.tuple #[])/\Near w' nb fp' av s.clear/\Went w fp w' fp' := by
 obtain ⟨rb,m,vb,tb,ns,h⟩:=h;have c1:=h.c1;obtain ⟨l1,hl1,_⟩:=h.vals;obtain ⟨o1,hr1,ho1⟩:=Ga (P:=Tryz.prog) hl1 Tryz.underlying81 0;obtain ⟨h1,hf1⟩:=h.setvals (es' := []) (fun W fp' hW _=>⟨[],ho1 W hW,by simp,by simp⟩);have c2:=h1.c2;obtain ⟨l2,hl2,_⟩:=h1.tix;obtain ⟨o2,hr2,ho2⟩:=Ga (P:=Tryz.prog) hl2 Tryz.underlying82 0;obtain ⟨h2,hf2⟩:=h1.settix (ts' := []) (fun W hW=>⟨[],ho2 W hW,by simp⟩) (by simp);have c0:=h2.c0;have hr1:∀T,(Builtin.clear_ #[81] T #[.map (some vb)]).run Tryz.prog w=.ok (.tuple #[]) (setB w vb o1):=fun T=>hr1;have hr2:∀T,(Builtin.clear_ #[82] T #[.map (some tb)]).run Tryz.prog (setB w vb o1)=.ok (.tuple #[]) (setB (setB w vb o1) tb o2):=fun T=>hr2;have hw:Went w fp (setB (setB w vb o1) tb o2) fp:=Went.trans ⟨hf1,fun _ h=>Or.inl h⟩ ⟨hf2,fun _ h=>Or.inl h⟩;have hrc:=h2.rc;replace h2:=Hd h2;replace hw:=Hd hw;clear h h1 hf1 hf2 ho1 ho2 hl1 hl2
 go_enter Tryz.func44,Tryz.ntmps44
 go_wp2_with fail
 refine (clear_rec hrc).mono ?_;rintro e w1 ⟨rfl,hrc1,hf⟩;have hf' : Fr (·∈rb :: m :: ns) (setB (setB w vb o1) tb o2) w1:=hf.mono (fun i _ hi=>by simp at hi;simp [hi])
 obtain ⟨fp', h3,h4,h5⟩:=h2.out.ring hrc1 hf' (fun b hb=>by simp at hb;exact Or.inr (by omega));clear hr1 hr2 c0 c1 c2;go_wp2
 go_end0
 exact ⟨fp', rfl,⟨_,_,_,_,_,h3⟩,hw.out.trans ⟨h4,h5⟩⟩
end Go.Proofs.YtfaihaoajdcjbaaGreatDoor.Av
