/- The layer recent, its calls: a list of keys, the one used longest ago first. -/
import Derived.Test.YtfaihaoajdcjbaaGreatDoorRecent
set_option linter.all false
namespace Go.Proofs.YtfaihaoajdcjbaaGreatDoor
open Go.RowKit
structure Rec (w:World) (r m:Nat) (ks:List ByteArray) (ns:List Nat):Prop where
 ring:Ring w r ks ns
 links:w.cell? ⟨r,3,none⟩=some (.map (some m))
 map:∃l,AMap strKey w m l/\l.Perm (ks.zip (ns.map P0))
theorem Dp {w:World} {a:Addr} {v:Value} (h:w.cell? a=some v):∃c t f,w.heap[a.block]?=some (.cells c t f):=by
 unfold World.cell? at h;split at h
 · exact ⟨_,_,_,‹_›⟩
 · cases h
theorem Rec.mlt {w:World} {r m:Nat} {ks:List ByteArray} {ns:List Nat} (h:Rec w r m ks ns):m<w.heap.size:=let ⟨_,hl,_⟩:=h.map;hl.lt
theorem Ring.cell0 {w:World} {r:Nat} {ks:List ByteArray} {ns:List Nat} (h:Ring w r ks ns):∀b∈r :: ns,∃v,w.cell? ⟨b,0,none⟩=some v:=by
 intro b hb;rcases List.mem_cons.1 hb with rfl | hb
 · exact ⟨_,h.root⟩
 · obtain ⟨i,hi,rfl⟩:=List.getElem_of_mem hb
   have hi' : i<ks.length:=h.len ▸ hi;exact ⟨_,h.keys i ks[i] ns[i] (by simp [hi']) (by simp [hi])⟩
theorem Ring.lt {w:World} {r:Nat} {ks:List ByteArray} {ns:List Nat} (h:Ring w r ks ns):∀b∈r :: ns,b<w.heap.size:=fun b hb=>
 let ⟨_,hv⟩:=h.cell0 b hb;World.block_lt_of_cell? _ _ hv
theorem Rec.sep {w:World} {r m:Nat} {ks:List ByteArray} {ns:List Nat} (h:Rec w r m ks ns):m ∉ r :: ns:=by
 intro hm;obtain ⟨v,hv⟩:=h.ring.cell0 m hm;obtain ⟨c,t,f,hc⟩:=Dp hv;obtain ⟨l,hl,_⟩:=h.map;obtain ⟨es,cl,hb,_⟩:=hl.held;rw [hb] at hc;cases hc
theorem D9 {ks:List ByteArray} {ns:List Nat} (h:ns.length=ks.length):(ks.zip (ns.map P0)).map (·.1)=ks:=by
 rw [show (fun p:ByteArray × Value=>p.1)=Prod.fst from rfl,List.map_fst_zip];simp;omega
theorem Rec.ksnd {w:World} {r m:Nat} {ks:List ByteArray} {ns:List Nat} (h:Rec w r m ks ns):ks.Nodup:=by
 obtain ⟨l,hl,hp⟩:=h.map;have:=(hp.map (·.1)).nodup_iff.1 hl.nodup
 rwa [D9 h.ring.len] at this
theorem Rec.fr {w w' : World} {r m:Nat} {ks:List ByteArray} {ns:List Nat} (h:Rec w r m ks ns) {S:Nat->Prop} (hf:Fr S w w') (hS:∀b∈r :: m :: ns,¬S b):Rec w' r m ks ns:=
 ⟨h.ring.fr hf (fun b hb=>hS b (by simp at hb ⊢;rcases hb with h | h<;>simp [h])),hf.cell h.links (hS r (by simp)),let ⟨l,hl,hp⟩:=h.map;⟨l,hl.fr hf (hS m (by simp)),hp⟩⟩
theorem Rec.split {w:World} {r m:Nat} {ks:List ByteArray} {ns:List Nat} (h:Rec w r m ks ns) {k:ByteArray} (hk:k∈ks) :
   ∃ks1 ks2 ns1 b ns2,ks=ks1++k :: ks2/\ns=ns1++b :: ns2/\ns1.length=ks1.length/\ns2.length=ks2.length:=by
 obtain ⟨ks1,ks2,rfl⟩:=List.append_of_mem hk;have hlen:=h.ring.len;simp at hlen;have h1:ks1.length<ns.length:=by omega
 refine ⟨ks1,ks2,ns.take ks1.length,ns[ks1.length],ns.drop (ks1.length+1),rfl,?_,by simp;omega,by simp;omega⟩;rw [<-List.drop_eq_getElem_cons h1,List.take_append_drop]
theorem Rec.look {w:World} {r m:Nat} {ks:List ByteArray} {ns:List Nat} (h:Rec w r m ks ns) (k:ByteArray):∃l,AMap strKey w m l/\l.Perm (ks.zip (ns.map P0))/\Ao l k=Ao (ks.zip (ns.map P0)) k:=by
 obtain ⟨l,hl,hp⟩:=h.map;exact ⟨l,hl,hp,E6 hp hl.nodup k⟩
theorem Cg {ks:List ByteArray} {ns:List Nat} (h:ns.length=ks.length) {k:ByteArray} (hk:k ∉ ks):Ao (ks.zip (ns.map P0)) k=none:=by
 rw [Bs,D9 h];exact hk
theorem C2 {ks1 ks2:List ByteArray} {ns1 ns2:List Nat} {k:ByteArray} {b:Nat} (h1:ns1.length=ks1.length) (h2:ns2.length=ks2.length) (hnd:(ks1++k :: ks2).Nodup) :
   Ao ((ks1++k :: ks2).zip ((ns1++b :: ns2).map P0)) k=some (P0 b):=by
 refine B3 (by rw [D9 (by simp;omega)];exact hnd) ?_;rw [List.map_append,List.map_cons,List.zip_append (by simp;omega),List.zip_cons_cons];simp
theorem zero_plink (W:World):(zeroValue 108).run Tryz.prog W=.ok (.pointer none) W:=by kernel_rfl
theorem Rec.hlook {w:World} {r m:Nat} {ks:List ByteArray} {ns:List Nat} (h:Rec w r m ks ns) (k:ByteArray) (ok:Bool) :
   (Instr.lookup 111 (.map (some m)) (.string k) ok).run Tryz.prog w=.ok (if ok then .tuple #[(Ao (ks.zip (ns.map P0)) k).getD (.pointer none),.bool (decide (k∈ks))] else (Ao (ks.zip (ns.map P0)) k).getD (.pointer none)) w:=by
 obtain ⟨l,hl,hp,he⟩:=h.look k;have h1:=hl.lookup (P:=Tryz.prog) Tryz.underlying111 Tryz.underlying9 zero_plink k ok;have h2:(Ao (ks.zip (ns.map P0)) k).isSome=decide (k∈ks):=by
   by_cases hk:k∈ks
   · obtain ⟨ks1,ks2,ns1,b,ns2,rfl,rfl,e1,e2⟩:=h.split hk
     rw [C2 e1 e2 h.ksnd];simp
   · rw [Cg h.ring.len hk];simp [hk]
 rw [he,h2] at h1;exact h1
def Bn (ks:List ByteArray) (k:ByteArray):List ByteArray:=ks.filter (fun x=>x≠k)++[k]
theorem Dc {ks1 ks2:List ByteArray} {k:ByteArray} (hnd:(ks1++k :: ks2).Nodup):(ks1++k :: ks2).filter (fun x=>x≠k)=ks1++ks2:=by
 rw [List.nodup_append] at hnd;obtain ⟨_,h2,h3⟩:=hnd;rw [List.nodup_cons] at h2;rw [List.filter_append,List.filter_cons,if_neg (by simp),List.filter_eq_self.2,List.filter_eq_self.2]
 · intro a ha;have:a≠k:=fun e=>h2.1 (e ▸ ha);simpa using this
 · intro a ha;have:a≠k:=h3 a ha k (by simp);simpa using this
theorem Dm {ks:List ByteArray} {k:ByteArray} (hk:k ∉ ks):ks.filter (fun x=>x≠k)=ks:=
 List.filter_eq_self.2 fun a ha=>by have:a≠k:=fun e=>hk (e ▸ ha);simpa using this
def NewOf (w:World) (ns ns' : List Nat):Prop:=∀b∈ns', b∈ns\/w.heap.size<=b
set_option maxHeartbeats 800000 in
theorem touch_was {w:World} {r m:Nat} {ks:List ByteArray} {ns:List Nat} (h:Rec w r m ks ns) {k:ByteArray} (hk:k∈ks) :
   Calls Tryz.prog 60 #[P0 r,.string k] w fun e w' => e=.returned (.bool false)/\∃ns', Rec w' r m (Bn ks k) ns' /\ Fr (·∈r :: m :: ns) w w' /\ NewOf w ns ns' := by
 obtain ⟨ks1,ks2,ns1,b,ns2,rfl,rfl,e1,e2⟩:=h.split hk;have hlook:=h.hlook k true;rw [C2 e1 e2 h.ksnd] at hlook;simp only [hk,if_true,Option.getD_some,decide_true] at hlook;have hl3:=h.links;obtain ⟨p,s,hp,hs,c1,c2,c3,c4,hout⟩:=ring_out h.ring e1;have hpf:=h.ring.frz p (by simp at hp ⊢;rcases hp with h | h<;>simp [h]) 2
 have hsf:=h.ring.frz s (by simp at hs ⊢;rcases hs with h | h<;>simp [h]) 1
 have hsep:=h.sep;have hmap:=h.map;have hnd:=h.ksnd;replace hout:=Hd hout;have h0:=Hd h;clear h
 go_enter Tryz.func60,Tryz.ntmps60
 go_wp2_with fail
 refine (out_any b p s w c1 c2 c3 hpf c4 hsf).mono ?_;rintro e w1 ⟨rfl,hw1⟩;obtain ⟨g1,g2,⟨x,g3⟩,⟨y,g4⟩,g5,g6,g7⟩:=hout.out w1 hw1;clear hw1 hlook hl3 c1 c2 c3 c4 hpf hsf;have hbn:b ∉ r :: (ns1++ns2):=by
   have:=h0.out.ring.nd;simp only [List.nodup_cons,List.nodup_append,List.mem_append,List.mem_cons,not_or] at this ⊢;exact ⟨fun e=>this.1.2.1 e.symm,fun e=>this.2.2.2 b e b (Or.inl rfl) rfl,this.2.2.1.1⟩
 obtain ⟨l,hl,d1,d2,hlast⟩:=Gd g1 hbn g2 g3 g4 g5;have hbl:b≠l:=fun e=>hbn (e ▸ hl);have hbr:b≠r:=fun e=>hbn (by simp [e]);have hlf:=g1.frz l hl 2;have hrf:=g1.frz r (by simp) 1;replace hlast:=Hd hlast;replace g6:=Hd g6;have f1:=g5.frz 1 none;have f2:=g5.frz 2 none;go_wp2_with fail
 refine (last_any r b l w1 d1 d2 hlf hrf x y g3 g4 f1 f2 hbr hbl).mono ?_;rintro e w2 ⟨rfl,hw2⟩;obtain ⟨k1,k2,k3⟩:=hlast.out w2 hw2;clear hw2;replace k2:=Hd k2;go_wp2_with fail
 go_ret;have hf:Fr (·∈r :: m :: (ns1++b :: ns2)) w w2:=
   (g7.mono (fun i _ hi=>by simp at hi ⊢;rcases hi with h | h | h<;>simp [h])).trans (k3.mono (fun i _ hi=>by simp at hi ⊢;rcases hi with h | h | h | h<;>simp [h]))
 refine ⟨rfl,ns1++ns2++[b],⟨?_,?_,?_⟩,hf,?_⟩
 · rw [Bn,Dc hnd];exact k1
 · rw [k2.out,g6.out];exact h0.out.links
 · obtain ⟨al,ha,hperm⟩:=hmap
   refine ⟨al,?_,?_⟩
   · have e1:w1.heap[m]?=w.heap[m]?:=g7.block m ha.lt (fun hm=>hsep (by simp at hm ⊢;rcases hm with h | h | h<;>simp [h]))
     have e2:w2.heap[m]?=w1.heap[m]?:=k3.block m (Nat.lt_of_lt_of_le ha.lt g7.size) (fun hm=>hsep (by simp at hm ⊢;rcases hm with h | h | h | h<;>simp [h]))
     exact ha.of_block (e2.trans e1)
   · rw [Bn,Dc hnd]
     refine hperm.trans ?_;rw [List.map_append,List.map_cons,List.zip_append (by simp;omega),List.zip_cons_cons,List.map_append,List.map_append,List.zip_append (by simp;omega),List.zip_append (by simp;omega)];simp only [List.map_cons,List.map_nil,List.zip_cons_cons,List.zip_nil_right];rw [List.append_assoc];exact List.Perm.append_left _ (List.perm_append_singleton _ _).symm
 · intro b' hb'
   simp at hb' ⊢;rcases hb' with h | h | h<;>simp [h]
theorem B6 {w:World} {b:Nat} {o:Obj} {a:Addr} (h:b≠a.block):(setB w b o).cell? a=w.cell? a:=by
 unfold World.cell?;rw [Dv o h]
set_option maxHeartbeats 800000 in
theorem touch_new {w:World} {r m:Nat} {ks:List ByteArray} {ns:List Nat} (h:Rec w r m ks ns) {k:ByteArray} (hk:k ∉ ks) :
   Calls Tryz.prog 60 #[P0 r,.string k] w fun e w' => e=.returned (.bool true)/\∃ns', Rec w' r m (Bn ks k) ns' /\ Fr (·∈r :: m :: ns) w w' /\ NewOf w ns ns' := by
 have hlook:=h.hlook k true;rw [Cg h.ring.len hk] at hlook;simp only [hk,if_true,Option.getD_none,decide_false] at hlook;have hl3:=h.links;obtain ⟨al,ha,hperm⟩:=h.map;have hmlt:=ha.lt;have hrlt:r<w.heap.size:=h.ring.lt r (by simp);obtain ⟨WA,hWA⟩:∃WA,WA=w.alloc (.cells #[.string k,.pointer none,.pointer none] 110):=⟨_,rfl⟩;have hfA:Fr (fun _=>False) w WA:=by rw [hWA];exact (Fr.refl _ w).alloc _
 have haA:AMap strKey WA m al:=ha.fr hfA (fun h=>h);obtain ⟨o,hup,hres⟩:=haA.update (P:=Tryz.prog) Tryz.underlying111 Tryz.underlying9 k (P0 w.heap.size);have hbn:w.heap.size ∉ r :: ns:=fun hm=>by have:=h.ring.lt _ hm;omega
 have hmA:m≠w.heap.size:=by omega
 have hfB:Fr (·∈[m]) WA (setB WA m o):=(Fr.refl _ WA).setB (fun _=>by show m∈[m];simp) o
 have hrA:=(h.ring.fr hfA (fun _ _ h=>h)).fr hfB (fun b hb hm=>h.sep (by simp at hm;rw [<-hm];exact hb));have hsz:w.heap.size≠m:=fun e=>hmA e.symm;have b0:(setB WA m o).cell? ⟨w.heap.size,0,none⟩=some (.string k):=by rw [B6 hmA,hWA];simp
 have b1:(setB WA m o).cell? ⟨w.heap.size,1,none⟩=some (.pointer none):=by rw [B6 hmA,hWA];simp
 have b2:(setB WA m o).cell? ⟨w.heap.size,2,none⟩=some (.pointer none):=by rw [B6 hmA,hWA];simp
 have bf:Blk (setB WA m o) w.heap.size:=by rw [hWA];exact (Blk.new w _ _).of_block (Dv o hmA)
 obtain ⟨l,hl,d1,d2,hlast⟩:=Gd hrA hbn b0 b1 b2 bf;have hbl:w.heap.size≠l:=fun e=>hbn (e ▸ hl);have hbr:w.heap.size≠r:=by omega
 have hlf:=hrA.frz l hl 2;have hrf:=hrA.frz r (by simp) 1;have f1:=bf.frz 1 none;have f2:=bf.frz 2 none;have hlA:(setB WA m o).cell? ⟨r,3,none⟩=some (.map (some m)):=hfB.cell (hfA.cell h.links (fun h=>h)) (fun hm=>h.sep (by simp at hm;simp [hm]));have hl3A:WA.cell? ⟨r,3,none⟩=some (.map (some m)):=hfA.cell h.links (fun h=>h);replace hl3A:=Hd hl3A;have hup:(Instr.mapUpdate 111 (.map (some m)) (.string k) (P0 w.heap.size)).run Tryz.prog WA=.ok () (setB WA m o):=hup;rw [hWA] at hup;replace hlast:=Hd hlast;replace hres:=Hd hres;replace hlA:=Hd hlA;have h0:=Hd h;replace hWA:=Hd hWA;have kd:=Hd d1;have kd2:=Hd d2;have kb1:=Hd b1;have kb2:=Hd b2;clear h b0 bf d1 d2 b1 b2
 go_enter Tryz.func60,Tryz.ntmps60
 go_wp2_with fail
 rw [<-hWA.out];refine (last_any r w.heap.size l (setB WA m o) kd.out kd2.out hlf hrf _ _ kb1.out kb2.out f1 f2 hbr hbl).mono ?_;rintro e w2 ⟨rfl,hw2⟩;obtain ⟨k1,k2,k3⟩:=hlast.out w2 hw2;clear hw2;replace k2:=Hd k2;go_wp2_with fail
 go_ret;have hm2:w2.heap[m]?=some o:=by
   rw [k3.block m (by have:=hfA.size;simp [Proofs.YtfaihaoajdcjbaaGreatDoor.setB];omega) (fun hm=>?_)]
   · exact Eo (x:=(WA.heap[m]?).getD default) (by have h1:=haA.lt;simp [Array.getElem?_eq_getElem h1])
   · simp only [List.mem_cons] at hm
     rcases hm with e | e
     · exact hmA e
     · exact h0.out.sep (by simp only [List.mem_cons];exact e)
 refine ⟨rfl,ns++[w.heap.size],⟨?_,?_,?_⟩,?_,?_⟩
 · rw [Bn,Dm hk];exact k1
 · rw [k2.out,hlA.out]
 · refine ⟨_,hres.out w2 hm2,?_⟩
   have hkm:k ∉ al.map (·.1):=fun hm=>hk (by
     have:=(hperm.map (·.1)).mem_iff.1 hm
     rwa [D9 h0.out.ring.len] at this)
   rw [ains,if_neg hkm,Bn,Dm hk,List.map_append,List.zip_append (by have:=h0.out.ring.len;simp;omega)];exact hperm.append_right _
 · refine (hfA.mono (fun i _ h=>h.elim)).trans_new ((hfB.mono (T:=fun i=>i∈w.heap.size :: r :: m :: ns) (fun i _ hi=>by simp at hi;simp [hi])).trans (k3.mono (fun i _ hi=>by simp at hi ⊢;rcases hi with h | h | h<;>simp [h]))) (fun i hi ht=>?_)
   simp only [List.mem_cons] at ht ⊢;rcases ht with e | e
   · omega
   · exact e
 · intro b' hb'
   rw [List.mem_append] at hb';rcases hb' with h | h
   · exact Or.inl h
   · simp at h;exact Or.inr (by omega)
theorem touch_any {w:World} {r m:Nat} {ks:List ByteArray} {ns:List Nat} (h:Rec w r m ks ns) (k:ByteArray) :
   Calls Tryz.prog 60 #[P0 r,.string k] w fun e w' => e=.returned (.bool (decide (k ∉ ks)))/\∃ns', Rec w' r m (Bn ks k) ns' /\ Fr (·∈r :: m :: ns) w w' /\ NewOf w ns ns' := by
 by_cases hk:k∈ks
 · simpa [hk] using touch_was h hk
 · simpa [hk] using touch_new h hk
set_option maxHeartbeats 800000 in
theorem drop_was {w:World} {r m:Nat} {ks:List ByteArray} {ns:List Nat} (h:Rec w r m ks ns) {k:ByteArray} (hk:k∈ks) :
   Calls Tryz.prog 93 #[P0 r,.string k] w fun e w' => e=.returned (.bool true)/\∃ns', Rec w' r m (ks.filter (fun x=>x≠k)) ns' /\ Fr (·∈r :: m :: ns) w w' /\ NewOf w ns ns' := by
 obtain ⟨ks1,ks2,ns1,b,ns2,rfl,rfl,e1,e2⟩:=h.split hk;have hlook:=h.hlook k true;rw [C2 e1 e2 h.ksnd] at hlook;simp only [hk,if_true,Option.getD_some,decide_true] at hlook;have hl3:=h.links;obtain ⟨p,s,hp,hs,c1,c2,c3,c4,hout⟩:=ring_out h.ring e1;have hpf:=h.ring.frz p (by simp at hp ⊢;rcases hp with h | h<;>simp [h]) 2
 have hsf:=h.ring.frz s (by simp at hs ⊢;rcases hs with h | h<;>simp [h]) 1
 have hsep:=h.sep;obtain ⟨al,ha,hperm⟩:=h.map;have hnd:=h.ksnd;replace hout:=Hd hout;have h0:=Hd h;clear h
 go_enter Tryz.func93,Tryz.ntmps93
 go_wp2_with fail
 refine (out_any b p s w c1 c2 c3 hpf c4 hsf).mono ?_;rintro e w1 ⟨rfl,hw1⟩;obtain ⟨g1,g2,_,_,g5,g6,g7⟩:=hout.out w1 hw1;clear hw1 hlook hl3 c1 c2 c3 c4 hpf hsf;have e1m:w1.heap[m]?=w.heap[m]?:=g7.block m ha.lt (fun hm=>hsep (by simp at hm ⊢;rcases hm with h | h | h<;>simp [h]))
 obtain ⟨o,hdel,hres⟩:=(ha.of_block e1m).delete (P:=Tryz.prog) Tryz.underlying111 Tryz.underlying9 k #[111,9] 0 rfl;have hl3:w1.cell? ⟨r,3,none⟩=some (.map (some m)):=g6.trans h0.out.links;have hdel:∀T,(Builtin.delete_ #[111,9] T #[.map (some m),.string k]).run Tryz.prog w1=.ok (.tuple #[]) (setB w1 m o):=fun T=>hdel;replace hres:=Hd hres;replace e1m:=Hd e1m;clear g6;go_wp2_with fail
 go_ret;have hmlt:m<w1.heap.size:=Nat.lt_of_lt_of_le ha.lt g7.size;have hm2:(setB w1 m o).heap[m]?=some o:=Eo (x:=w1.heap[m]) (by simp [hmlt]);have hfB:Fr (·∈[m]) w1 (setB w1 m o):=(Fr.refl _ w1).setB (fun _=>by show m∈[m];simp) o
 refine ⟨rfl,ns1++ns2,⟨?_,?_,?_⟩,?_,?_⟩
 · rw [Dc hnd]
   exact g1.fr hfB (fun b' hb' hm=>hsep (by simp at hm;subst hm;simp at hb' ⊢;rcases hb' with h | h | h<;>simp [h]))
 · exact hfB.cell hl3 (fun hm=>hsep (by simp at hm;subst hm;simp))
 · refine ⟨_,hres.out _ hm2,?_⟩
   have:adel al k |>.Perm (adel ((ks1++k :: ks2).zip ((ns1++b :: ns2).map P0)) k):=hperm.filter _;refine this.trans ?_;rw [Dc hnd,List.map_append,List.map_cons,List.zip_append (by simp;omega),List.zip_cons_cons,List.map_append,List.zip_append (by simp;omega),adel,List.filter_append,List.filter_cons,if_neg (by simp)];rw [List.nodup_append] at hnd;obtain ⟨_,q2,q3⟩:=hnd;rw [List.nodup_cons] at q2;rw [List.filter_eq_self.2,List.filter_eq_self.2]
   · intro a ha'; have:a.1≠k:=fun e=>q2.1 (e ▸ (List.of_mem_zip ha').1);simpa using this
   · intro a ha'; have:a.1≠k:=q3 a.1 (List.of_mem_zip ha').1 k (by simp);simpa using this
 · exact (g7.mono (fun i _ hi=>by simp at hi ⊢;rcases hi with h | h | h<;>simp [h])).trans (hfB.mono (fun i _ hi=>by simp at hi;simp [hi]))
 · intro b' hb'
   simp at hb' ⊢;rcases hb' with h | h<;>simp [h]
theorem drop_not {w:World} {r m:Nat} {ks:List ByteArray} {ns:List Nat} (h:Rec w r m ks ns) {k:ByteArray} (hk:k ∉ ks) :
   Calls Tryz.prog 93 #[P0 r,.string k] w fun e w' => e=.returned (.bool false)/\w' = w:=by
 have hlook:=h.hlook k true;rw [Cg h.ring.len hk] at hlook;simp only [hk,if_true,Option.getD_none,decide_false] at hlook;have hl3:=h.links;clear h
 go_enter Tryz.func93,Tryz.ntmps93
 go_wp2;go_ret;exact ⟨rfl,rfl⟩
theorem drop_any {w:World} {r m:Nat} {ks:List ByteArray} {ns:List Nat} (h:Rec w r m ks ns) (k:ByteArray) :
   Calls Tryz.prog 93 #[P0 r,.string k] w fun e w' => e=.returned (.bool (decide (k∈ks)))/\∃ns', Rec w' r m (ks.filter (fun x=>x≠k)) ns' /\ Fr (·∈r :: m :: ns) w w' /\ NewOf w ns ns' := by
 by_cases hk:k∈ks
 · simpa [hk] using drop_was h hk
 · refine (drop_not h hk).mono ?_
   rintro e w' ⟨rfl,rfl⟩;rw [Dm hk];exact ⟨by simp [hk],ns,h,Fr.refl _ _,fun b hb=>Or.inl hb⟩
end Go.Proofs.YtfaihaoajdcjbaaGreatDoor
