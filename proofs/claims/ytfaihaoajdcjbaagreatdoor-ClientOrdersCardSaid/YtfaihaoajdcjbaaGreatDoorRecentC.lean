/- The layer recent, more of its calls. -/
import Derived.Test.YtfaihaoajdcjbaaGreatDoorRecentB
import Derived.Deep.LoopGhost
import Derived.BigQuiet
import Derived.Deep.QuietTactic
set_option linter.all false
namespace Go.Proofs.YtfaihaoajdcjbaaGreatDoor
open Go.RowKit
theorem infoLink0:(Tryz.prog.info? 110).map (·.size)=some 3:=by kernel_rfl
theorem infoLink:∃i,Tryz.prog.info? 110=some i/\i.size≠0:=by
 obtain ⟨i,hi,hs⟩:=Option.map_eq_some_iff.1 infoLink0;exact ⟨i,hi,by omega⟩
theorem Ring.neq {w:World} {r:Nat} {ks:List ByteArray} {ns:List Nat} (h:Ring w r ks ns) {b:Nat} (hb:b∈ns) (W:World) (hW:W.heap=w.heap) :
   (binOp .neq 108 (P0 b) (P0 r)).run Tryz.prog W=.ok (.bool true) W:=by
 obtain ⟨i,hi,h0⟩:=infoLink;obtain ⟨c,t,hc⟩:=h.blk b (by simp [hb]);obtain ⟨c', t', hc'⟩:=h.blk r (by simp);have hne:b≠r:=fun e=>(List.nodup_cons.1 h.nd).1 (e ▸ hb);exact C6 (run_eql_ptr_other (w:=W) Tryz.underlying108 hi h0 (by simp [hne]) (by rw [hW];exact hc) (by rw [hW];exact hc'))
theorem E9 (r:Nat) (W:World):(binOp .neq 108 (P0 r) (P0 r)).run Tryz.prog W=.ok (.bool false) W:=by
 obtain ⟨i,hi,h0⟩:=infoLink;exact C6 (run_eql_ptr_same (w:=W) _ Tryz.underlying108 hi)
def Cr (but:ByteArray):List ByteArray->ByteArray × Bool
 | []=>(ByteArray.empty,false)
 | k :: t=>if k≠but then (k,true) else match t with
   | []=>(ByteArray.empty,false)
   | k2 :: _=>(k2,true)
theorem Ring.at {w:World} {r:Nat} {ks:List ByteArray} {ns:List Nat} (h:Ring w r ks ns) (i:Nat) (hi:i<=ns.length) :
   ∃a b,(r :: ns)[i]?=some a/\(ns++[r])[i]?=some b/\w.cell? ⟨a,2,none⟩=some (P0 b):=by
 have key:∀(l:List Nat) (i:Nat),Linked w l->i+1<l.length->∃a b,l[i]?=some a/\l[i+1]?=some b/\w.cell? ⟨a,2,none⟩=some (P0 b):=by
   intro l;induction l with
   | nil=>intro i _ h;simp at h
   | cons x l ih=>
     intro i hl hlt;cases l with
     | nil=>simp at hlt
     | cons y l=>
       cases i with
       | zero=>exact ⟨x,y,rfl,rfl,hl.1⟩
       | succ i=>exact ih i hl.2.2 (by simpa using hlt)
 obtain ⟨a,b,ha,hb,hc⟩:=key _ i h.linked (by simp;omega);refine ⟨a,b,?_,?_,hc⟩
 · rw [List.getElem?_append_left (by simp;omega)] at ha;exact ha
 · simpa using hb
set_option maxRecDepth 100000 in
set_option maxHeartbeats 800000 in
theorem oldest_any {w:World} {r m:Nat} {ks:List ByteArray} {ns:List Nat} (h:Rec w r m ks ns) (but:ByteArray) :
   Calls Tryz.prog 78 #[P0 r,.string but] w fun e w' => e=.returned (.tuple #[.string (Cr but ks).1,.bool (Cr but ks).2])/\∃n,w' = w.drewN n:=by
 have hR:=h.ring;have hroot:=h.ring.root;clear h;obtain ⟨a0,b0,ha0,hb0,hc0⟩:=hR.at 0 (by omega);simp at ha0;subst ha0;cases ks with
 | nil=>
   have hns:ns=[]:=by have:=hR.len;simpa using this
   subst hns;simp at hb0;subst hb0;have hq:=E9 r;replace hR:=Hd hR
   go_enter Tryz.func78,Tryz.ntmps78
   go_wp2
   go_quiet (fail)
   go_wp2
   go_ret2
   exact ⟨rfl,_,rfl⟩
 | cons k t=>
   cases ns with
   | nil=>have:=hR.len;simp at this
   | cons b ns=>
   simp at hb0;subst hb0;have hk:=hR.keys 0 k b rfl rfl;have hq1:=hR.neq (b:=b) (by simp) w rfl;have hqd:=fun n=>hR.neq (b:=b) (by simp) (w.drewN n) rfl;by_cases hkb:k=but
   · subst hkb
     obtain ⟨a1,b1,ha1,hb1,hc1⟩:=hR.at 1 (by simp);simp at ha1;subst ha1;cases t with
     | nil=>
       have hns:ns=[]:=by have:=hR.len;simpa using this
       subst hns;simp at hb1;subst hb1;have hq2:=E9 r;replace hR:=Hd hR;clear hqd
       go_enter Tryz.func78,Tryz.ntmps78
       go_wp2
       go_quiet (fail)
       go_wp2
       go_ret2
       exact ⟨by simp [Cr],_,rfl⟩
     | cons k2 t=>
       cases ns with
       | nil=>have:=hR.len;simp at this
       | cons b2 ns=>
       simp at hb1;subst hb1;have hk2:=hR.keys 1 k2 b2 rfl rfl;have hq2:=fun n=>hR.neq (b:=b2) (by simp) (w.drewN n) rfl;replace hR:=Hd hR;clear hqd
       go_enter Tryz.func78,Tryz.ntmps78
       go_wp2
       go_quiet (fail)
       go_wp2
       go_ret2
       exact ⟨by simp [Cr],_,rfl⟩
   · replace hR:=Hd hR
     have e0:=str_ne hkb;have e1:Cr but (k :: t)=(k,true):=by simp [Cr,hkb]
     rw [e1];clear e1 hkb
     go_enter Tryz.func78,Tryz.ntmps78
     go_wp2
     go_quiet (fail)
     go_wp2
     go_ret2
     exact ⟨rfl,_,rfl⟩
set_option maxHeartbeats 800000 in
theorem F9 {w:World} {r:Nat} {x y z:Value} (h0:w.cell? ⟨r,0,none⟩=some (.string ByteArray.empty)) (h1:w.cell? ⟨r,1,none⟩=some x) (h2:w.cell? ⟨r,2,none⟩=some y)
   (h3:w.cell? ⟨r,3,none⟩=some z) (hf:Blk w r) :
   Calls Tryz.prog 70 #[P0 r] w fun e w' => e=.returned (.tuple #[])/\Rec w' r w.heap.size [] []/\Fr (·∈[r]) w w' := by
 have hlt:r<w.heap.size:=World.block_lt_of_cell? _ _ h0;have hmm:=@run_makeMap Tryz.prog;have al:∀o v,w.cell? ⟨r,o,none⟩=some v->(w.alloc (.map #[] 0)).cell? ⟨r,o,none⟩=some v:=fun o v hv=>by rw [World.cell?_alloc_past _ _ _ hlt];exact hv
 have af:Blk (w.alloc (.map #[] 0)) r:=hf.fr (S:=fun _=>False) ((Fr.refl _ w).alloc _) (fun h=>h);have a0:=al 0 _ h0;have a1:=al 1 _ h1;have a2:=al 2 _ h2;have a3:=al 3 _ h3;obtain ⟨W,hW⟩:∃W,W=(w.alloc (.map #[] 0)).setCell ⟨r,3,none⟩ (.map (some w.heap.size)):=⟨_,rfl⟩;have hW2:(w.setCell ⟨r,3,none⟩ (.map (some w.heap.size))).alloc (.map #[] 0)=W:=by rw [hW,World.setCell_alloc_past _ _ _ _ hlt]
 replace hW2:=Hd hW2;have b1:W.cell? ⟨r,1,none⟩=some x:=by rw [hW,Ab (by simp)];exact a1
 have b2:W.cell? ⟨r,2,none⟩=some y:=by rw [hW,Ab (by simp)];exact a2
 have b2' : ∀v,(W.setCell ⟨r,1,none⟩ v).cell? ⟨r,2,none⟩=some y:=fun v=>by rw [Ab (by simp)];exact b2
 have bf:Blk W r:=by rw [hW];exact af.setCell _ _
 have bf1:=bf.frz 1 none;have bf2:=bf.frz 2 none;have af3:=af.frz 3 none;have hW' := Hd hW;have h0' := Hd h0;have a0' := Hd a0;clear h0 h1 h2 h3 hf al af a0 a1 a2
 go_enter Tryz.func70,Tryz.ntmps70
 clear hW;go_wp2;rw [hW2.out]
 go_region
 all_goals go_end0
 all_goals refine ⟨rfl,?_,?_⟩
 · have c1:((W.setCell ⟨r,1,none⟩ (P0 r)).setCell ⟨r,2,none⟩ (P0 r)).cell? ⟨r,1,none⟩=some (P0 r):=by rw [Ab (by simp)];exact Af b1
   have c2:((W.setCell ⟨r,1,none⟩ (P0 r)).setCell ⟨r,2,none⟩ (P0 r)).cell? ⟨r,2,none⟩=some (P0 r):=Af (b2' _);refine ⟨⟨by simp,rfl,?_,by simp,⟨c2,c1,trivial⟩,?_⟩,?_,[],⟨by simp,#[],0,?_,rfl,by simp,by simp⟩,by simp⟩
   · rw [World.cell?_drew,Ab (by simp),Ab (by simp),hW'.out,Ab (by simp)];exact a0'.out
   · intro b hb
     simp at hb;subst hb;exact ((bf.setCell _ _).setCell _ _).drew
   · rw [World.cell?_drew,Ab (by simp),Ab (by simp),hW'.out];exact Af a3
   · show ((W.setCell ⟨r,1,none⟩ (P0 r)).setCell ⟨r,2,none⟩ (P0 r)).heap[w.heap.size]?=_
     rw [Below.heap_setCell _ _ _ _ (by show _≠r;omega),Below.heap_setCell _ _ _ _ (by show _≠r;omega),hW'.out,Below.heap_setCell _ _ _ _ (by show _≠r;omega)];exact (MapKept.heap_alloc w _).1
 · refine Fr.drew ?_
   rw [hW'.out];exact ((((Fr.refl _ w).alloc _).setCell (fun _=>by show r∈[r];simp) _).setCell (fun _=>by show r∈[r];simp) _).setCell (fun _=>by show r∈[r];simp) _
set_option maxHeartbeats 800000 in
theorem new_any (w:World):Calls Tryz.prog 51 #[] w fun e w' => ∃r m,e=.returned (P0 r)/\Rec w' r m [] []/\Below w.heap.size w w' /\ w.heap.size<=r/\w.heap.size<=m:=by
 go_enter Tryz.func51,Tryz.ntmps51
 go_wp2_with fail
 refine (F9 (r:=w.heap.size) (x:=.pointer none) (y:=.pointer none) (z:=.map none) (by simp;rfl) (by simp) (by simp) (by simp) (Blk.new w _ _)).mono ?_;rintro e w1 ⟨rfl,h1,h2⟩;have hb:Below w.heap.size w w1:=((Fr.refl (fun _=>False) w).alloc _).trans_new h2 (fun i hi hm=>by simp at hm;omega) |>.below (Nat.le_refl _) (fun _ _ h=>h);have h1:=h1;go_wp2;go_ret;exact ⟨_,_,rfl,h1,hb,Nat.le_refl _,by simp⟩
theorem eStr:Elem Tryz.prog 22 9 1 16:=C1 Tryz.underlying22 (by decide) (by decide) (by kernel_rfl)
set_option maxRecDepth 100000 in
set_option maxHeartbeats 1600000 in
theorem all_any {w:World} {r m:Nat} {ks:List ByteArray} {ns:List Nat} (h:Rec w r m ks ns) (hn:ks.length<=1000000) :
   Calls Tryz.prog 45 #[P0 r] w fun e w' => ∃v,e=.returned v/\w'.ownsRow w.heap.size 9 1 v ks.length (ks.map Value.string)/\Below w.heap.size w w' := by
 have hR:=h.ring;have hlen:=hR.len;have hlt:=hR.lt;have hrl:=hlt r (by simp);clear h;obtain ⟨a0,b0,ha0,hb0,hc0⟩:=hR.at 0 (by omega);simp at ha0;subst ha0;replace hlen:=Hd hlen;replace hR:=Hd hR;replace hlt:=Hd hlt
 go_enter Tryz.func45,Tryz.ntmps45
 go_wp2
 go_loopg [3,4] ks.length (fun k v l wr=>∃i b,i+k=ks.length/\(ns++[r])[i]?=some b/\l=P0 b/\wr.ownsRow w.heap.size 9 1 v i ((ks.take i).map Value.string)/\Below w.heap.size w wr)
 case atStart=>exact ⟨0,b0,by omega,hb0,rfl,World.ownsRow_nil _ _ _ _,Below.refl _ _⟩
 case round=>
   obtain ⟨i,b,hik,hb,rfl,hown,hbel⟩:=hrel;have hRw:=hR.out.fr (Fr.of_below hbel) (fun b hb=>by have:=hlt.out b hb;omega);by_cases hi:i<ks.length
   · have hin:i<ns.length:=by rw [hlen.out];exact hi
     rw [List.getElem?_append_left hin] at hb;have hbm:=List.mem_of_getElem? hb;have hq:=hRw.neq hbm wr rfl;have hk:=hRw.keys i ks[i] b (by simp) hb;obtain ⟨k,hke⟩:∃k,k=ks[i]:=⟨_,rfl⟩;rw [<-hke] at hk;obtain ⟨a1,b1,ha1,hb1,hc1⟩:=hR.out.at (i+1) (by omega);simp only [List.getElem?_cons_succ] at ha1;rw [hb] at ha1;cases ha1
     have hts:ks.take (i+1)=ks.take i++[k]:=by rw [hke,List.take_succ_eq_append_getElem hi]
     have hbw:=hlt.out b (by simp [hbm]);replace hts:=Hd hts;replace hke:=Hd hke;replace hRw:=Hd hRw;replace hc1:=Hd hc1;replace hb:=Hd hb;replace hik:=Hd hik;clear hc0;go_wp2_with (at_builtin;refine append_elem rfl rfl eStr rfl hown rfl rfl rfl (by omega) hbel.size ?_)
     intro v' w1 hown' hfr;have hbel' := Below.of_append hbel hfr (fun k hk=>(An hown k hk).1) hbel.size;have hc1' : w1.cell? ⟨b,2,none⟩=some (P0 b1):=by rw [hbel'.cell (by exact hbw)];exact hc1.out
     clear hown hbel hfr hq hk;go_wp2
     go_roundg (gk - 1)
     case rel=>
       have:=hik.out;exact ⟨i+1,b1,by omega,hb1,rfl,by rw [hts.out,List.map_append,List.map_take];exact hown', hbel'⟩
     case measure=>have:=hik.out;omega
   · have hie:i=ks.length:=by omega
     subst hie;have hbr:b=r:=by
       rw [<-hlen.out,List.getElem?_append_right (Nat.le_refl _)] at hb;simpa using hb.symm
     subst hbr;have hq:=E9 b wr;rw [List.take_length] at hown;clear hi hik hb hb0 hc0;go_wp2;go_ret;exact ⟨_,rfl,hown,hbel⟩
end Go.Proofs.YtfaihaoajdcjbaaGreatDoor
