/- slices.Insert of one field into a row of the call's own. -/
import Derived.Test.YteoalcmhdoopnaaGreatDoorItCopy
import Derived.Test.YteoalcmhdoopnaaGreatDoorCopyK
import Derived.Lib.Overlaps
import Derived.StillTailTactics
namespace Go.Proofs.YteoalcmhdoopnaaGreatDoor
open Go.RowKit
def ins (fs:List Fld) (k:Nat) (f:Fld):List Fld:=fs.take k++f :: fs.drop k
theorem A7:∀(fs:List Fld) (k:Nat),(flds fs).take (k * 2)=flds (fs.take k)
 | [],k=>by simp [Ao]
 | f :: fs,0=>by simp [Ao]
 | f :: fs,k+1=>by
   rw [Ad,show (k+1) * 2=k * 2+1+1 by omega,List.take_succ_cons,List.take_succ_cons,A7 fs k,List.take_succ_cons,Ad]
theorem A8:∀(fs:List Fld) (k:Nat),(flds fs).drop (k * 2)=flds (fs.drop k)
 | [],k=>by simp [Ao]
 | f :: fs,0=>by simp
 | f :: fs,k+1=>by
   rw [Ad,show (k+1) * 2=k * 2+1+1 by omega,List.drop_succ_cons,List.drop_succ_cons,A8 fs k,List.drop_succ_cons]
theorem infoFld:(Tryz.prog.info? 53).map (fun i=>(i.zero.map (·.cells),i.size,i.bytes))=some (some #[.string ⟨#[]⟩,.string ⟨#[]⟩],2,32):=by kernel_rfl
theorem Bf:(Tryz.prog.info? 53).map (·.size)=some 2:=by kernel_rfl
theorem lay2 {α:Type} (A B C D:List α) (cur:List α) (hA:cur.take A.length=A) (hl:A.length+B.length+C.length<=cur.length) :
   let c1:=cur.take A.length++B++cur.drop (A.length+B.length)
   (c1.take (A.length+B.length)++C++c1.drop (A.length+B.length+C.length)).take (A.length+B.length+C.length)=A++B++C:=by
 intro c1
 have h1:c1.take (A.length+B.length)=A++B:=by
   show (cur.take A.length++B++_).take _=_;rw [hA,List.take_append_of_le_length (by simp),List.take_of_length_le (by simp)]
 rw [h1,List.take_append_of_le_length (by simp [Nat.add_assoc]),List.take_of_length_le (by simp [Nat.add_assoc])]
theorem lay3 {α:Type} (A B C:List α) (cur:List α) (hA:cur.take A.length=A) (hl:A.length+B.length+C.length<=cur.length) :
   let c1:=cur.take (A.length+B.length)++C++cur.drop (A.length+B.length+C.length)
   (c1.take A.length++B++c1.drop (A.length+B.length)).take (A.length+B.length+C.length)=A++B++C:=by
 intro c1
 have hm:(cur.take (A.length+B.length)).length=A.length+B.length:=by rw [List.length_take];omega
 have h1:c1.take A.length=A:=by
   show (cur.take (A.length+B.length)++C++_).take _=_;rw [List.append_assoc,List.take_append_of_le_length (by rw [hm];omega),List.take_take,Nat.min_eq_left (by omega),hA]
 have h2:c1.drop (A.length+B.length)=C++cur.drop (A.length+B.length+C.length):=by
   show (cur.take (A.length+B.length)++C++_).drop _=_;rw [List.append_assoc,List.drop_append_of_le_length (by rw [hm];exact Nat.le_refl _),List.drop_of_length_le (by rw [hm];exact Nat.le_refl _),List.nil_append]
 rw [h1,h2,<-List.append_assoc,List.take_append_of_le_length (by simp [Nat.add_assoc]),List.take_of_length_le (by simp [Nat.add_assoc])]
def InsP (B:Nat) (w:World) (a:Option Addr) (n cap:Nat) (fs:List Fld) (k:Nat) (f:Fld) (e:Ending) (w' : World):Prop:=
 ∃(a' : Option Addr) (cap' : Nat),e=.returned (.slice a' (n+1) cap')/\w'.ownsRow B 53 2 (.slice a' (n+1) cap') (n+1) (flds (ins fs k f))/\Fr (fun q=>(Value.slice a n cap).ownBlock=some q) w w' /\
   (∀q,(Value.slice a' (n+1) cap').ownBlock=some q->(Value.slice a n cap).ownBlock=some q\/w.heap.size<=q)
theorem news_of {w:World} {vb:Nat} {f:Fld} (hv:w.heap[vb]?=some (.cells #[.string f.1,.string f.2] 53 (0,0))):RF w (some ⟨vb,0,none⟩) 1 1 [f]:=
 ⟨some ⟨vb,0,none⟩,1,rfl,by rw [Ac];rfl,fun j u hu=>⟨vb,0,rfl,by rw [An hv,Nat.zero_add];rw [Ad,Ao] at hu;simpa using hu⟩⟩
set_option maxRecDepth 100000 in
set_option maxHeartbeats 6400000 in
theorem insert_end (B:Nat) (a:Option Addr) (n cap:Nat) (fs:List Fld) (f:Fld) (vb:Nat) (w:World) (hown:w.ownsRow B 53 2 (.slice a n cap) n (flds fs)) (hv:w.heap[vb]?=some (.cells #[.string f.1,.string f.2] 53 (0,0))) (hn:n<=100000) (hB:B<=w.heap.size) :
   Calls Tryz.prog 46 #[.slice a n cap,.int .i64 n,.slice (some ⟨vb,0,none⟩) 1 1] w (InsP B w a n cap fs n f):=by
 have hl:=(RF.of_owns hown).len
 have hi:flds fs++flds [f]=flds (ins fs n f):=by
   unfold ins;rw [List.take_of_length_le (by omega),List.drop_of_length_le (by omega),Ah]
 have hnew:=news_of hv
 have hone:=Aq [f]
 have hnc:n<=cap:=by
   obtain ⟨_,h⟩:=hown;rcases h with ⟨h,h0⟩ | ⟨g,cap', cur,h,_,_,h2,_⟩
   · omega
   · cases h;exact h2
 replace hi:=Hd hi
 replace hl:=Hd hl
 replace hown:=Hd hown
 replace hnew:=Hd hnew
 replace hone:=Hd hone
 replace hv:=Hd hv
 have hend:∀(v' : Value) (w' : World),w'.ownsRow B 53 2 v' (n+1) (flds fs++flds [f])->Fr (fun q=>(Value.slice a n cap).ownBlock=some q) w w' -> (∀q,v'.ownBlock=some q->(Value.slice a n cap).ownBlock=some q\/w.heap.size<=q)->InsP B w a n cap fs n f (.returned v') w' := fun v' w' h1 h2 h3=>by
   obtain ⟨a3,c3,rfl⟩:=(Reads.of_owns h1).shape;exact ⟨a3,c3,rfl,by rw [<-hi.out];exact h1,h2,h3⟩
 replace hend:=Hd hend
 by_cases hc:cap=n
 all_goals
   first | subst hc | skip
   go_enter Tryz.func46,Tryz.ntmps46
   go_wp2_with (at_builtin;refine Bd rfl rfl eFld rfl hown.out rfl hnew.out (fun h=>by cases h) hone.out (by omega) hB ?_)
   intro v' w' h1 h2 h3
   have hz:=hend.out v' w' h1 h2 h3
   replace hz:=Hd hz
   clear h1 h2 h3
   go_wp2
   go_ret
   exact hz.out
set_option maxRecDepth 100000 in
set_option maxHeartbeats 6400000 in
theorem insert_room (B g:Nat) (n cap k:Nat) (cur:Array Value) (fs:List Fld) (f:Fld) (vb:Nat) (w:World) (hg:w.heap[g]?=some (.cells cur 53 (0,0))) (hcap:cap<=maxLen) (hcur:cur.size=cap * 2) (hx:cur.toList.take (n * 2)=flds fs) (hl:fs.length=n) (hgB:B<=g)
   (hv:w.heap[vb]?=some (.cells #[.string f.1,.string f.2] 53 (0,0))) (hvg:vb≠g) (hn:n<=100000) (hk:k<n) (hroom:n+1<=cap) :
   Calls Tryz.prog 46 #[.slice (some ⟨g,0,none⟩) n cap,.int .i64 k,.slice (some ⟨vb,0,none⟩) 1 1] w (InsP B w (some ⟨g,0,none⟩) n cap fs k f):=by
 unfold maxLen at hcap
 have hov:∀W lb cb o,W.heap[g]?=some (.cells cur 53 (0,0))->W.heap[vb]?=some (.cells #[.string f.1,.string f.2] 53 (0,0))->(callFunc 61 #[.slice (some ⟨vb,0,none⟩) 1 1,.slice (some ⟨g,o,none⟩) lb cb]).run Tryz.prog W=.ok (.value (.bool false)) W:=fun W lb cb o h1 h2=>by
   rw [run_callFunc_extern Tryz.func61 (by kernel_rfl) (by kernel_rfl) (by kernel_rfl) (e:=Extern.SlicesOverlaps.overlaps #[22,22] #[4]) (by kernel_rfl),
     Lib.run_overlaps_apart W 22 4 53 Tryz.underlying22 2 (fun W=>by kernel_rfl) ⟨vb,0,none⟩ ⟨g,o,none⟩ 1 1 lb cb hvg 53 53 2 cur.size (by simp [World.shape?,h2]) (by simp [World.shape?,h1]) (by omega) (by simp [World.frozen?,h2]) (by simp [World.frozen?,h2])]
   rfl
 have hlc:(flds fs).length=n * 2:=by rw [Ac,hl]
 have hA:(flds (fs.take k)).length=k * 2:=by rw [Ac,List.length_take];omega
 have hC:(flds (fs.drop k)).length=(n - k) * 2:=by rw [Ac,List.length_drop];omega
 have hcl:cur.toList.length=cap * 2:=by rw [Array.length_toList];exact hcur
 obtain ⟨c1,hc1⟩:∃c1:Array Value,c1=(cur.toList.take ((k+1) * 2)++flds (fs.drop k)++cur.toList.drop ((k+1) * 2+(flds (fs.drop k)).length)).toArray:=⟨_,rfl⟩
 have hc1s:c1.size=cap * 2:=by
   rw [hc1,List.size_toArray,List.length_append,List.length_append,List.length_take,List.length_drop,hC,hcl];omega
 have hcp1:∀W,W.heap[g]?=some (.cells cur 53 (0,0))->∀ty dc sc,(Builtin.copy_ #[22,22] ty #[.slice (some ⟨g,(k+1) * 2,none⟩) (n - k) dc,.slice (some ⟨g,k * 2,none⟩) (n+1 - k) sc]).run Tryz.prog W=.ok (goInt (n - k:Nat)) (W.setRow g c1):=fun W h1 ty dc sc=>by
   rw [hc1];refine Ak W _ _ ty 53 2 g ((k+1) * 2) (n - k) dc ⟨g,k * 2,none⟩ (n+1 - k) sc cur 53 (flds (fs.drop k)) (n - k) Tryz.underlying22 Bf h1 (by simp only [Nat.min_def];split<;>omega) hC (fun j v hj=>?_) (by rw [hC,hcur];omega) (fun v hv=>List.all_eq_true.1 (Aq _) v hv);rw [show (⟨g,k * 2,none⟩:Addr).add j=⟨g,k * 2+j,none⟩ by unfold Addr.add;split<;>simp_all,An h1];have h2:(flds fs)[k * 2+j]?=some v:=by rw [<-A8,List.getElem?_drop] at hj;exact hj
   rw [<-hx,List.getElem?_take] at h2;split at h2
   · simpa using h2
   · cases h2
 obtain ⟨c2,hc2⟩:∃c2:Array Value,c2=(c1.toList.take (k * 2)++flds [f]++c1.toList.drop (k * 2+2)).toArray:=⟨_,rfl⟩
 have hc2s:c2.size=cap * 2:=by
   rw [hc2,List.size_toArray,List.length_append,List.length_append,List.length_take,List.length_drop,Array.length_toList,hc1s,Ac];simp;omega
 have hnew:=fun W h=>(news_of (w:=W) (vb:=vb) (f:=f) h)
 have hcp2:∀W,W.heap[g]?=some (.cells c1 53 (0,0))->W.heap[vb]?=some (.cells #[.string f.1,.string f.2] 53 (0,0))->∀ty dc sc,(Builtin.copy_ #[22,22] ty #[.slice (some ⟨g,k * 2,none⟩) (n+1 - k) dc,.slice (some ⟨vb,0,none⟩) 1 sc]).run Tryz.prog W=.ok (goInt (1:Nat)) (W.setRow g c2):=fun W h1 h2 ty dc sc=>by
   rw [hc2];refine Ak W _ _ ty 53 2 g (k * 2) (n+1 - k) dc ⟨vb,0,none⟩ 1 sc c1 53 (flds [f]) 1 Tryz.underlying22 Bf h1 (by simp only [Nat.min_def];split<;>omega) (by rw [Ac];rfl) (fun j v hj=>?_) (by rw [Ac,hc1s];simp;omega) (fun v hv=>List.all_eq_true.1 (Aq _) v hv);rw [show (⟨vb,0,none⟩:Addr).add j=⟨vb,j,none⟩ by unfold Addr.add;split<;>simp_all,An h2];rw [Ad,Ao] at hj;simpa using hj
 have hfin:c2.toList.take ((n+1) * 2)=flds (ins fs k f):=by
   have h:=lay3 (flds (fs.take k)) (flds [f]) (flds (fs.drop k)) cur.toList (by rw [hA,<-A7,<-hx,List.take_take,Nat.min_eq_left (by omega)]) (by rw [hA,hC,hcl,Ac];simp;omega);simp only [hA,hC,show (flds [f]).length=2 from rfl] at h;have e:flds (ins fs k f)=flds (fs.take k)++flds [f]++flds (fs.drop k):=by
     unfold ins;rw [Ah,show f :: fs.drop k=[f]++fs.drop k from rfl,Ah,List.append_assoc]
   rw [e,hc2,hc1];simp only [hC];rw [show (n+1) * 2=k * 2+2+(n - k) * 2 by omega,show (k+1) * 2=k * 2+2 by omega];exact h
 replace hcp1:=Hd hcp1
 replace hcp2:=Hd hcp2
 replace hnew:=Hd hnew
 replace hfin:=Hd hfin
 replace hx:=Hd hx
 replace hc1:=Hd hc1
 replace hc2:=Hd hc2
 replace hc1s:=Hd hc1s
 replace hc2s:=Hd hc2s
 replace hcl:=Hd hcl
 replace hlc:=Hd hlc
 replace hA:=Hd hA
 replace hC:=Hd hC
 replace hl:=Hd hl
 replace hcur:=Hd hcur
 replace hov:=hov w
 replace hov:∀lb cb o,(callFunc 61 #[.slice (some ⟨vb,0,none⟩) 1 1,.slice (some ⟨g,o,none⟩) lb cb]).run Tryz.prog w=.ok (.value (.bool false)) w:=fun lb cb o=>hov lb cb o hg hv
 have hne:¬(k=n):=by omega
 have hkb:((k:Int) == (n:Int))=false:=by simp;omega
 go_enter Tryz.func46,Tryz.ntmps46
 go_wp2_with (simp only [hov])
 have hw1:IntKind.i64.wrap ((k:Int)+1)=(k:Int)+1:=IntWalk.i64_in _ (by omega)
 have hb1:(0:Int)<=(k:Int)+1:=by omega
 have hb2:¬(cap=k+1):=by omega
 have hb3:(k:Int)<=(n:Int)+1:=by omega
 have hb4:¬(cap=k):=by omega
 have hb5:k<=n:=by omega
 have hb6:k<=n+1:=by omega
 have hb7:k+1<=n+1:=by omega
 have hb8:n+1<=cap:=hroom
 have htn:((k:Int)+1).toNat=k+1:=by omega
 go_still_tail 8,(by kernel_rfl)
 change wpList _ _ _ _ _ w.drew
 have hg1:w.drew.heap[g]?=some (.cells cur 53 (0,0)):=hg
 have hv1:w.drew.heap[vb]?=some (.cells #[.string f.1,.string f.2] 53 (0,0)):=hv
 have hf1:Fr (fun q=>(Value.slice (some ⟨g,0,none⟩) n cap).ownBlock=some q) w (w.drew.setRow g c1):=Ay (S:=fun q=>(Value.slice (some ⟨g,0,none⟩) n cap).ownBlock=some q) (Fr.refl _ w).drew (fun _=>rfl) hg1 c1
 have hg2:=Ai hg1 c1
 have hv2:(w.drew.setRow g c1).heap[vb]?=some (.cells #[.string f.1,.string f.2] 53 (0,0)):=by
   rw [hf1.block vb (Array.getElem?_eq_some_iff.1 hv).1 (fun e=>hvg (by simp [Value.ownBlock] at e;exact e.symm))];exact hv
 have hf2:=Ay (S:=fun q=>(Value.slice (some ⟨g,0,none⟩) n cap).ownBlock=some q) hf1 (fun _=>rfl) hg2 c2
 have hg3:=Ai hg2 c2
 have hq1:=hcp1.out w.drew hg1
 have hq2:=hcp2.out (w.drew.setRow g c1) hg2 hv2
 replace hq2:=Hd hq2
 replace hf1:=Hd hf1
 replace hf2:=Hd hf2
 replace hg2:=Hd hg2
 replace hg3:=Hd hg3
 replace hv2:=Hd hv2
 clear hg1 hv1 hov
 clear htn
 refine Aj rfl _ _ 22 22 rfl _ _ rfl rfl (fun ty=>hq1 ty _ _) ?_
 clear hq1
 obtain ⟨W3,hW3⟩:∃W3,W3=w.drew.setRow g c1:=⟨_,rfl⟩
 rw [<-hW3] at hq2 hf2 hg3 ⊢
 replace hW3:=Hd hW3
 go_wp2_with (refine Aj rfl _ _ 22 22 rfl _ _ rfl rfl (fun ty=>hq2.out ty _ _) ?_)
 go_ret
 exact ⟨some ⟨g,0,none⟩,cap,by first | rfl | simp,A6 hgB hg3.out hroom (by unfold maxLen;omega) hc2s.out hfin.out,hf2.out,fun q hq=>Or.inl hq⟩
set_option maxRecDepth 100000 in
set_option maxHeartbeats 6400000 in
theorem insert_grow (B g:Nat) (n cap k:Nat) (cur:Array Value) (fs:List Fld) (f:Fld) (vb:Nat) (w:World) (hg:w.heap[g]?=some (.cells cur 53 (0,0))) (hcap:cap<=maxLen) (hcur:cur.size=cap * 2) (hx:cur.toList.take (n * 2)=flds fs) (hl:fs.length=n) (hBw:B<=w.heap.size)
   (hv:w.heap[vb]?=some (.cells #[.string f.1,.string f.2] 53 (0,0))) (hn:n<=100000) (hk:k<n) (hnc:n<=cap) (hroom:cap<n+1) :
   Calls Tryz.prog 46 #[.slice (some ⟨g,0,none⟩) n cap,.int .i64 k,.slice (some ⟨vb,0,none⟩) 1 1] w (InsP B w (some ⟨g,0,none⟩) n cap fs k f):=by
 obtain rfl:cap=n:=by omega
 have hA:(flds (fs.take k)).length=k * 2:=by rw [Ac,List.length_take];omega
 have hC:(flds (fs.drop k)).length=(cap - k) * 2:=by rw [Ac,List.length_drop];omega
 have hlen:∀(j:Nat) (v:Value),(flds fs)[j]?=some v->∀W:World,W.heap[g]?=some (.cells cur 53 (0,0))->W.cell? ⟨g,j,none⟩=some v:=fun j v h W hW=>by
   rw [An hW];rw [<-hx,List.getElem?_take] at h;split at h
   · simpa using h
   · cases h
 have hadd:∀(b o j:Nat),(⟨b,o,none⟩:Addr).add j=⟨b,o+j,none⟩:=fun b o j=>by unfold Addr.add;split<;>simp_all
 obtain ⟨C,hCd⟩:∃C,C=grownCap w (k+(cap+1 - k)) cap 53:=⟨_,rfl⟩
 have hCge:cap+1<=C:=by rw [hCd];exact Nat.le_trans (by omega) (grownCap_ge w _ _ _)
 have hCm:C<=maxLen:=by rw [hCd];exact grownCap_le_maxLen w _ _ _ (by unfold maxLen;omega)
 obtain ⟨i0,hi0,hi1⟩:=Option.map_eq_some_iff.1 infoFld
 simp only [Prod.mk.injEq] at hi1
 obtain ⟨hz,hs,hby⟩:=hi1
 obtain ⟨z,hz1,hz2⟩:=Option.map_eq_some_iff.1 hz
 obtain ⟨cur1,hcur1⟩:∃c1:Array Value,c1=(flds (fs.take k)).toArray++Builtin.zeroCells z.cells (cap+1 - k)++Builtin.zeroCells z.cells (C - (k+(cap+1 - k))):=⟨_,rfl⟩
 have hc1s:cur1.size=C * 2:=by
   rw [hcur1,Array.size_append,Array.size_append,List.size_toArray,size_zeroCells,size_zeroCells,hz2,hA];simp;omega
 have hcl1:cur1.toList.length=C * 2:=by rw [Array.length_toList];exact hc1s
 have hc1t:cur1.toList.take (k * 2)=flds (fs.take k):=by
   rw [hcur1,Array.toList_append,Array.toList_append,List.append_assoc,List.take_append_of_le_length (by rw [hA];exact Nat.le_refl _),List.take_of_length_le (by rw [hA];exact Nat.le_refl _)]
 have hold:(Builtin.firstCells i0.size k (.slice (some ⟨g,0,none⟩) k cap)).run Tryz.prog w.drew=.ok (flds (fs.take k)).toArray w.drew:=by
   rw [hs];refine run_firstCells_some w.drew 2 k ⟨g,0,none⟩ k cap _ hA (fun j v hj=>?_);rw [hadd,Nat.zero_add];exact hlen j v (by rw [<-A7,List.getElem?_take] at hj;split at hj;exact hj;cases hj) w.drew hg
 have hrun:∀ty,(Builtin.append_ #[22,3] ty #[.slice (some ⟨g,0,none⟩) k cap,.int .i64 ((cap+1 - k:Nat):Int)]).run Tryz.prog w=.ok (.slice (some ⟨w.heap.size,0,none⟩) (cap+1) C) (w.drew.alloc (.cells cur1 53)):=fun ty=>by
   have h:=Lib.run_append_grow_zeros (P:=Tryz.prog) w 22 3 ty 53 i0 z .i64 .i64 Tryz.underlying22 Tryz.underlying3 hi0 hz1 (some ⟨g,0,none⟩) k cap (flds (fs.take k)) hold (cap+1 - k) (by omega) (by rw [hs];omega) (by omega) (by omega) (by rw [hby];omega) (by rw [hby];exact growslice_fits (by omega) (by omega));rw [h,hcur1,hCd];congr 2;omega
 obtain ⟨W1,hW1⟩:∃W1,W1=w.drew.alloc (.cells cur1 53):=⟨_,rfl⟩
 rw [<-hW1] at hrun
 have hf0:Fr (fun q=>(Value.slice (some ⟨g,0,none⟩) cap cap).ownBlock=some q) w W1:=by rw [hW1];exact (Fr.refl _ w).drew.alloc _
 have hgt:g<w.heap.size:=(Array.getElem?_eq_some_iff.1 hg).1
 have hvt:vb<w.heap.size:=(Array.getElem?_eq_some_iff.1 hv).1
 have hh1:W1.heap[w.heap.size]?=some (.cells cur1 53 (0,0)):=by rw [hW1];show (w.drew.heap.push _)[w.drew.heap.size]?=_;exact Array.getElem?_push_size
 have hold2:∀q,q<w.heap.size->W1.heap[q]?=w.heap[q]?:=fun q hq=>by rw [hW1];exact Below.heap_alloc w.drew _ q hq
 obtain ⟨c1,hc1⟩:∃c1:Array Value,c1=(cur1.toList.take (k * 2)++flds [f]++cur1.toList.drop (k * 2+2)).toArray:=⟨_,rfl⟩
 have hc1z:c1.size=C * 2:=by
   rw [hc1,List.size_toArray,List.length_append,List.length_append,List.length_take,List.length_drop,Array.length_toList,hc1s,Ac];simp;omega
 obtain ⟨c2,hc2⟩:∃c2:Array Value,c2=(c1.toList.take ((k+1) * 2)++flds (fs.drop k)++c1.toList.drop ((k+1) * 2+(flds (fs.drop k)).length)).toArray:=⟨_,rfl⟩
 have hc2s:c2.size=C * 2:=by
   rw [hc2,List.size_toArray,List.length_append,List.length_append,List.length_take,List.length_drop,hC,Array.length_toList,hc1z];omega
 have hfin:c2.toList.take ((cap+1) * 2)=flds (ins fs k f):=by
   have h:=lay2 (flds (fs.take k)) (flds [f]) (flds (fs.drop k)) ([]:List Value) cur1.toList (by rw [hA];exact hc1t) (by rw [hA,hC,hcl1,Ac];simp;omega);simp only [hA,hC,show (flds [f]).length=2 from rfl] at h;have e:flds (ins fs k f)=flds (fs.take k)++flds [f]++flds (fs.drop k):=by
     unfold ins;rw [Ah,show f :: fs.drop k=[f]++fs.drop k from rfl,Ah,List.append_assoc]
   rw [e,hc2,hc1];simp only [hC];rw [show (cap+1) * 2=k * 2+2+(cap - k) * 2 by omega,show (k+1) * 2=k * 2+2 by omega];exact h
 have hq1:∀ty dc sc,(Builtin.copy_ #[22,22] ty #[.slice (some ⟨w.heap.size,k * 2,none⟩) (cap+1 - k) dc,.slice (some ⟨vb,0,none⟩) 1 sc]).run Tryz.prog W1=.ok (goInt (1:Nat)) (W1.setRow w.heap.size c1):=fun ty dc sc=>by
   rw [hc1];refine Ak W1 _ _ ty 53 2 w.heap.size (k * 2) (cap+1 - k) dc ⟨vb,0,none⟩ 1 sc cur1 53 (flds [f]) 1 Tryz.underlying22 Bf hh1 (by simp only [Nat.min_def];split<;>omega) (by rw [Ac];rfl) (fun j v hj=>?_) (by rw [Ac,hc1s];simp;omega) (fun v hv=>List.all_eq_true.1 (Aq _) v hv);rw [hadd,Nat.zero_add,An (show W1.heap[vb]?=some (.cells #[.string f.1,.string f.2] 53 (0,0)) by rw [hold2 vb hvt];exact hv)];rw [Ad,Ao] at hj;simpa using hj
 obtain ⟨W2,hW2⟩:∃W2,W2=W1.setRow w.heap.size c1:=⟨_,rfl⟩
 rw [<-hW2] at hq1
 have hf1:Fr (fun q=>(Value.slice (some ⟨g,0,none⟩) cap cap).ownBlock=some q) w W2:=by rw [hW2];exact Ay hf0 (fun h=>by omega) hh1 c1
 have hh2:W2.heap[w.heap.size]?=some (.cells c1 53 (0,0)):=by rw [hW2];exact Ai hh1 c1
 have hg2:W2.heap[g]?=some (.cells cur 53 (0,0)):=by
   rw [hW2];unfold World.setRow;rw [Array.getElem?_modify,if_neg (by omega),hold2 g hgt];exact hg
 have hq2:∀ty dc sc,(Builtin.copy_ #[22,22] ty #[.slice (some ⟨w.heap.size,(k+1) * 2,none⟩) (cap - k) dc,.slice (some ⟨g,k * 2,none⟩) (cap - k) sc]).run Tryz.prog W2.drew=.ok (goInt (cap - k:Nat)) (W2.drew.setRow w.heap.size c2):=fun ty dc sc=>by
   rw [hc2];refine Ak W2.drew _ _ ty 53 2 w.heap.size ((k+1) * 2) (cap - k) dc ⟨g,k * 2,none⟩ (cap - k) sc c1 53 (flds (fs.drop k)) (cap - k) Tryz.underlying22 Bf hh2 (by simp only [Nat.min_def];split<;>omega) hC (fun j v hj=>?_) (by rw [hC,hc1z];omega) (fun v hv=>List.all_eq_true.1 (Aq _) v hv);rw [hadd];exact hlen (k * 2+j) v (by rw [<-A8,List.getElem?_drop] at hj;exact hj) W2.drew hg2
 have hf2:Fr (fun q=>(Value.slice (some ⟨g,0,none⟩) cap cap).ownBlock=some q) w (W2.drew.setRow w.heap.size c2):=Ay hf1.drew (fun h=>by omega) (show W2.drew.heap[w.heap.size]?=_ from hh2) c2
 have hh3:(W2.drew.setRow w.heap.size c2).heap[w.heap.size]?=some (.cells c2 53 (0,0)):=Ai (show W2.drew.heap[w.heap.size]?=_ from hh2) c2
 replace hCm:=Hd hCm
 replace hCd:=Hd hCd
 replace hcur1:=Hd hcur1
 replace hW1:=Hd hW1
 replace hW2:=Hd hW2
 replace hrun:=Hd hrun
 replace hq1:=Hd hq1
 replace hq2:=Hd hq2
 replace hf2:=Hd hf2
 replace hh3:=Hd hh3
 replace hfin:=Hd hfin
 replace hc2s:=Hd hc2s
 have hCge' : cap<C:=hCge
 clear hf0 hf1 hh1 hh2 hold2 hg2 hc1 hc2 hc1z hc1s hc1t hold hi0 hz hs hby hz1 hz2 hadd hlen hA hC hx hl hcur hv hg hcap hroom hgt hvt
 have hne:¬(k=cap):=by omega
 have hkb:((k:Int) == (cap:Int))=false:=by simp;omega
 have hb0:((cap:Int)+1 - (k:Int))=((cap+1 - k:Nat):Int):=by omega
 go_enter Tryz.func46,Tryz.ntmps46
 go_wp2_with (first
   | (at_builtin;refine Lib.wpList_append_run _ rfl _ _ _ _ rfl _ _ rfl (by rw [<-hb0];rfl) _ _ (hrun.out _) ?_)
   | (refine Aj rfl _ _ 22 22 rfl _ _ rfl rfl (fun ty=>hq1.out ty _ _) ?_))
 have hw1:IntKind.i64.wrap ((k:Int)+1)=(k:Int)+1:=IntWalk.i64_in _ (by omega)
 have hb1:(0:Int)<=(k:Int)+1:=by omega
 have hb2:¬(C=k+1):=by omega
 have hb3:(k:Int)<=(cap:Int)+1:=by omega
 have hb4:¬(cap=k):=by omega
 have hb5:k<=cap:=by omega
 have hb6:k<=cap+1:=by omega
 have hb7:k+1<=cap+1:=by omega
 have htn:((k:Int)+1).toNat=k+1:=by omega
 go_still_tail 8,(by kernel_rfl)
 change wpList _ _ _ _ _ W2.drew
 refine Aj rfl _ _ 22 22 rfl _ _ rfl rfl (fun ty=>hq2.out ty _ _) ?_
 clear htn
 go_wp2
 go_ret
 exact ⟨some ⟨w.heap.size,0,none⟩,C,by first | rfl | simp,A6 hBw hh3.out hCge hCm.out hc2s.out hfin.out,hf2.out,fun q hq=>Or.inr (by simp [Value.ownBlock] at hq;omega)⟩
theorem insert_own (B:Nat) (a:Option Addr) (n cap k:Nat) (fs:List Fld) (f:Fld) (vb:Nat) (w:World) (hown:w.ownsRow B 53 2 (.slice a n cap) n (flds fs)) (hv:w.heap[vb]?=some (.cells #[.string f.1,.string f.2] 53 (0,0))) (hvg:(Value.slice a n cap).ownBlock≠some vb) (hn:n<=100000) (hk:k<=n) (hB:B<=w.heap.size) :
   Calls Tryz.prog 46 #[.slice a n cap,.int .i64 k,.slice (some ⟨vb,0,none⟩) 1 1] w (InsP B w a n cap fs k f):=by
 have hl:=(RF.of_owns hown).len
 rcases Nat.eq_or_lt_of_le hk with rfl | hk
 · exact insert_end B a k cap fs f vb w hown hv hn hB
 · cases a with
   | none=>have:=(RF.of_owns hown).nil;omega
   | some ad=>
     obtain ⟨g,cur,rfl,hgB,hg,hnc,hcm,hcs,hx⟩:=A9 hown;rcases Nat.lt_or_ge cap (n+1) with h | h
     · exact insert_grow B g n cap k cur fs f vb w hg hcm hcs hx hl hB hv hn hk hnc h
     · exact insert_room B g n cap k cur fs f vb w hg hcm hcs hx hl hgB hv (fun e=>hvg (by rw [e];rfl)) hn hk h
end Go.Proofs.YteoalcmhdoopnaaGreatDoor
