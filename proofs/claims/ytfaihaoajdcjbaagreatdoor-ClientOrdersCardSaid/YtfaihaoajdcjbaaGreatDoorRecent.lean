/- The layer recent: what each of its functions does to a ring of links. -/
import Derived.Test.YtfaihaoajdcjbaaGreatDoorProg
import Derived.Test.YtfaihaoajdcjbaaGreatDoorBase
set_option linter.all false
namespace Go.Proofs.YtfaihaoajdcjbaaGreatDoor
open Go.RowKit
abbrev P0 (b:Nat):Value:=.pointer (some ⟨b,0,none⟩)
def Linked (w:World):List Nat->Prop
 | a :: b :: t=>w.cell? ⟨a,2,none⟩=some (P0 b)/\w.cell? ⟨b,1,none⟩=some (P0 a)/\Linked w (b :: t)
 | _=>True
theorem A9 {w:World} {a:Nat}:∀{xs ys:List Nat},Linked w (xs++a :: ys) ↔ Linked w (xs++[a])/\Linked w (a :: ys)
 | [],ys=>by simp [Linked]
 | [x],ys=>by simp [Linked,and_assoc]
 | x :: y :: xs,ys=>by
   have:=A9 (w:=w) (a:=a) (xs:=y :: xs) (ys:=ys);simp only [List.cons_append,Linked] at this ⊢;rw [this];simp only [and_assoc]
theorem Linked.of_same {w w' : World}:∀{l:List Nat},Linked w l->(∀a∈l.dropLast,w'.cell? ⟨a,2,none⟩=w.cell? ⟨a,2,none⟩)->(∀a∈l.tail,w'.cell? ⟨a,1,none⟩=w.cell? ⟨a,1,none⟩)->Linked w' l
 | [],_,_,_=>trivial
 | [_],_,_,_=>trivial
 | a :: b :: t,h,h2,h1=>by
   refine ⟨?_,?_,Linked.of_same h.2.2 (fun x hx=>h2 x (by simp at hx ⊢;exact Or.inr hx)) (fun x hx=>h1 x (by simp at hx ⊢;exact Or.inr hx))⟩
   · rw [h2 a (by simp)];exact h.1
   · rw [h1 b (by simp)];exact h.2.1
structure Ring (w:World) (r:Nat) (ks:List ByteArray) (ns:List Nat):Prop where
 nd:(r :: ns).Nodup
 len:ns.length=ks.length
 root:w.cell? ⟨r,0,none⟩=some (.string ByteArray.empty)
 keys:∀(i:Nat) k b,ks[i]?=some k->ns[i]?=some b->w.cell? ⟨b,0,none⟩=some (.string k)
 linked:Linked w (r :: ns++[r])
 blk:∀b∈r :: ns,Blk w b
theorem Ring.frz {w:World} {r:Nat} {ks:List ByteArray} {ns:List Nat} (h:Ring w r ks ns):∀b∈r :: ns,∀o,w.frozen? ⟨b,o,none⟩=false:=fun b hb o=>(h.blk b hb).frz o none
theorem out_any (b p s:Nat) (w:World)
   (h1:w.cell? ⟨b,1,none⟩=some (P0 p)) (h2:w.cell? ⟨b,2,none⟩=some (P0 s))
   (cp:w.cell? ⟨p,2,none⟩=some (P0 b)) (fp:w.frozen? ⟨p,2,none⟩=false)
   (cs:w.cell? ⟨s,1,none⟩=some (P0 b)) (fs:w.frozen? ⟨s,1,none⟩=false) :
   Calls Tryz.prog 79 #[P0 b] w fun e w' => e=.returned (.tuple #[])/\w' = ((w.setCell ⟨p,2,none⟩ (P0 s)).setCell ⟨s,1,none⟩ (P0 p)).drew:=by
 have cs' : ∀v,(w.setCell ⟨p,2,none⟩ v).cell? ⟨s,1,none⟩=some (P0 b):=fun v=>by
   rw [Ab (by simp)];exact cs
 go_enter Tryz.func79,Tryz.ntmps79
 go_wp2
 go_region
 all_goals (go_end0;exact ⟨rfl,rfl⟩)
theorem last_any (r b l:Nat) (w:World)
   (h1:w.cell? ⟨r,1,none⟩=some (P0 l))
   (cl:w.cell? ⟨l,2,none⟩=some (P0 r))
   (fl:w.frozen? ⟨l,2,none⟩=false) (fr:w.frozen? ⟨r,1,none⟩=false)
   (x y:Value) (c1:w.cell? ⟨b,1,none⟩=some x) (c2:w.cell? ⟨b,2,none⟩=some y)
   (f1:w.frozen? ⟨b,1,none⟩=false) (f2:w.frozen? ⟨b,2,none⟩=false) (hbr:b≠r) (hbl:b≠l) :
   Calls Tryz.prog 80 #[P0 r,P0 b] w fun e w' => e=.returned (.tuple #[]) /\
     w' = ((((w.setCell ⟨b,1,none⟩ (P0 l)).setCell ⟨b,2,none⟩ (P0 r)).setCell ⟨l,2,none⟩ (P0 b)).setCell ⟨r,1,none⟩ (P0 b)).drew.drew:=by
 have g2:∀v,(w.setCell ⟨b,1,none⟩ v).cell? ⟨b,2,none⟩=some y:=fun v=>by
   rw [Ab (by simp)];exact c2
 have k1:((w.setCell ⟨b,1,none⟩ (P0 l)).setCell ⟨b,2,none⟩ (P0 r)).cell? ⟨b,1,none⟩=some (P0 l):=by
   rw [Ab (by simp)];exact Af c1
 have k2:((w.setCell ⟨b,1,none⟩ (P0 l)).setCell ⟨b,2,none⟩ (P0 r)).cell? ⟨b,2,none⟩=some (P0 r):=Af (g2 _);have k3:((w.setCell ⟨b,1,none⟩ (P0 l)).setCell ⟨b,2,none⟩ (P0 r)).cell? ⟨l,2,none⟩=some (P0 r):=by
   rw [Ab (by simp [hbl]),Ab (by simp)];exact cl
 have k4:∀v,(((w.setCell ⟨b,1,none⟩ (P0 l)).setCell ⟨b,2,none⟩ (P0 r)).setCell ⟨l,2,none⟩ v).cell? ⟨r,1,none⟩=some (P0 l):=fun v=>by
   rw [Ab (by simp),Ab (by simp),Ab (by simp [hbr])];exact h1
 go_enter Tryz.func80,Tryz.ntmps80
 go_wp2
 go_region
 go_wp2
 go_region
 all_goals (go_end0;exact ⟨rfl,rfl⟩)
theorem Fd (a:Nat) (l:List Nat):∃xs z,a :: l=xs++[z]:=by
 rcases List.eq_nil_or_concat (a :: l) with h | ⟨xs,z,h⟩
 · cases h
 · exact ⟨xs,z,by simpa using h⟩
theorem cut_first (l:List Nat) (a:Nat):∃z ys,l++[a]=z :: ys:=by
 cases l with
 | nil=>exact ⟨a,[],rfl⟩
 | cons x l=>exact ⟨x,l++[a],rfl⟩
theorem Ring.fr {w w' : World} {r:Nat} {ks:List ByteArray} {ns:List Nat} (h:Ring w r ks ns) {S:Nat->Prop} (hf:Fr S w w') (hS:∀b∈r :: ns,¬S b):Ring w' r ks ns:=by
 have hc:∀b∈r :: ns,∀o v,w.cell? ⟨b,o,none⟩=some v->w'.cell? ⟨b,o,none⟩=some v:=fun b hb o v hv=>hf.cell hv (hS b hb);have hlt:∀b∈r :: ns,b<w.heap.size:=by
   intro b hb;rcases List.mem_cons.1 hb with rfl | hb
   · exact World.block_lt_of_cell? _ _ h.root
   · obtain ⟨i,hi,rfl⟩:=List.getElem_of_mem hb
     have hi' : i<ks.length:=h.len ▸ hi;exact World.block_lt_of_cell? _ _ (h.keys i ks[i] ns[i] (by simp [hi']) (by simp [hi]))
 have hb:∀b∈r :: ns,w'.heap[b]?=w.heap[b]?:=fun b hb=>hf.block b (hlt b hb) (hS b hb);refine ⟨h.nd,h.len,hc r (by simp) _ _ h.root,fun i k b hk hb=>hc b (List.mem_cons_of_mem _ (List.mem_of_getElem? hb)) _ _ (h.keys i k b hk hb),?_,?_⟩
 · refine h.linked.of_same (fun a ha=>World.cell?_of_block (hb a ?_)) (fun a ha=>World.cell?_of_block (hb a ?_))
   · have:a∈(r :: ns++[r]):=List.dropLast_subset _ ha
     simp at this ⊢;rcases this with h | h | h<;>simp [h]
   · have:a∈(r :: ns++[r]):=List.mem_of_mem_tail ha
     simp at this ⊢;rcases this with h | h | h<;>simp [h]
 · intro b hb'
   exact (h.blk b hb').of_block (hb b hb')
theorem ring_out {w:World} {r b:Nat} {k:ByteArray} {ks1 ks2:List ByteArray} {ns1 ns2:List Nat} (h:Ring w r (ks1++k :: ks2) (ns1++b :: ns2)) (hl:ns1.length=ks1.length) :
   ∃p s,p∈r :: ns1/\s∈ns2++[r]/\w.cell? ⟨b,1,none⟩=some (P0 p)/\w.cell? ⟨b,2,none⟩=some (P0 s)/\w.cell? ⟨p,2,none⟩=some (P0 b)/\w.cell? ⟨s,1,none⟩=some (P0 b) /\
     ∀W,W=((w.setCell ⟨p,2,none⟩ (P0 s)).setCell ⟨s,1,none⟩ (P0 p)).drew ->
       Ring W r (ks1++ks2) (ns1++ns2)/\W.cell? ⟨b,0,none⟩=some (.string k)/\(∃x,W.cell? ⟨b,1,none⟩=some x)/\(∃x,W.cell? ⟨b,2,none⟩=some x)/\Blk W b /\
       W.cell? ⟨r,3,none⟩=w.cell? ⟨r,3,none⟩/\Fr (·∈r :: ns1++ns2) w W:=by
 obtain ⟨xs,p,hp⟩:=Fd r ns1;obtain ⟨s,ys,hs⟩:=cut_first ns2 r;have hL:r :: (ns1++b :: ns2)++[r]=xs++p :: b :: s :: ys:=by
   have:r :: (ns1++b :: ns2)++[r]=(r :: ns1)++b :: (ns2++[r]):=by simp
   rw [this,hp,hs];simp
 have hlk:=h.linked;rw [hL] at hlk;obtain ⟨lk1,lk2⟩:=A9.1 hlk;simp only [Linked] at lk2;obtain ⟨c1,c2,c3,c4,lk3⟩:=lk2;have hpm:p∈r :: ns1:=by rw [hp];simp
 have hsm:s∈ns2++[r]:=by rw [hs];simp
 have hnd:=h.nd;have hnd1:(r :: ns1).Nodup:=hnd.sublist (by simp);have hnd2:(ns2++[r]).Nodup:=by
   simp only [List.nodup_cons,List.mem_append,List.mem_cons,not_or,List.nodup_append] at hnd;rw [List.nodup_append];exact ⟨hnd.2.2.1.2,by simp,fun a ha c hc=>by simp at hc;subst hc;exact fun e=>hnd.1.2.2 (e ▸ ha)⟩
 have hbr:b≠r:=fun e=>by subst e;simp at hnd
 have hbp:b≠p:=by
   intro e;subst e;rcases List.mem_cons.1 hpm with e | e
   · exact hbr e
   · simp only [List.nodup_cons,List.nodup_append] at hnd
     exact hnd.2.2.2 b e b (by simp) rfl
 have hbs:b≠s:=by
   intro e;subst e;rcases List.mem_append.1 hsm with e | e
   · simp only [List.nodup_cons,List.nodup_append] at hnd
     exact hnd.2.2.1.1 e
   · exact hbr (by simpa using e)
 refine ⟨p,s,hpm,hsm,c2,c3,c1,c4,?_⟩;rintro W rfl;have same:∀q:Addr,q≠⟨p,2,none⟩->q≠⟨s,1,none⟩->(((w.setCell ⟨p,2,none⟩ (P0 s)).setCell ⟨s,1,none⟩ (P0 p)).drew).cell? q=w.cell? q:=fun q h1 h2=>by
   rw [World.cell?_drew,Ab (Ne.symm h2),Ab (Ne.symm h1)]
 have hsub:(r :: (ns1++ns2)).Sublist (r :: (ns1++b :: ns2)):=by simp
 have hlen:ns1.length=ks1.length:=hl;have hb0:=h.keys ns1.length k b (by rw [hlen];simp) (by simp);refine ⟨⟨hnd.sublist hsub,by have:=h.len;simp at this ⊢;omega,by rw [same _ (by simp) (by simp)];exact h.root,?_,?_,?_⟩,?_,?_,?_,?_,?_,?_⟩
 · intro i k' b' hk' hb'
   rw [same _ (by simp) (by simp)];by_cases hi:i<ns1.length
   · exact h.keys i k' b' (by rw [List.getElem?_append_left (by omega)] at hk' ⊢;exact hk') (by rw [List.getElem?_append_left hi] at hb' ⊢;exact hb')
   · refine h.keys (i+1) k' b' ?_ ?_
     · rw [List.getElem?_append_right (by omega)] at hk' ⊢
       rw [show i+1 - ks1.length=(i - ks1.length)+1 by omega];simpa using hk'
     · rw [List.getElem?_append_right (by omega)] at hb' ⊢
       rw [show i+1 - ns1.length=(i - ns1.length)+1 by omega];simpa using hb'
 · have e:r :: (ns1++ns2)++[r]=xs++p :: s :: ys:=by
     have:r :: (ns1++ns2)++[r]=(r :: ns1)++(ns2++[r]):=by simp
     rw [this,hp,hs];simp
   rw [e];refine A9.2 ⟨lk1.of_same (fun a ha=>same _ ?_ (by simp)) (fun a ha=>same _ (by simp) ?_),?_,?_,lk3.of_same (fun a ha=>same _ ?_ (by simp)) (fun a ha=>same _ (by simp) ?_)⟩
   · rw [List.dropLast_concat] at ha
     rw [hp] at hnd1;have:=List.nodup_append.1 hnd1;intro e;simp only [Addr.mk.injEq,and_true] at e;subst e;exact this.2.2 _ ha _ (by simp) rfl
   · rw [<-hp] at ha
     intro e;simp only [Addr.mk.injEq,and_true] at e;subst e;simp only [List.tail_cons] at ha;simp only [List.nodup_cons,List.nodup_append,List.mem_append,List.mem_cons] at hnd;rcases List.mem_append.1 hsm with e | e
     · exact hnd.2.2.2 _ ha _ (Or.inr e) rfl
     · simp at e;subst e;exact hnd.1 (Or.inl ha)
   · rw [World.cell?_drew,Ab (by simp)];exact Af c1
   · rw [World.cell?_drew];exact Af (by rw [Ab (by simp)];exact c4)
   · rw [<-hs,List.dropLast_concat] at ha
     intro e;simp only [Addr.mk.injEq,and_true] at e;subst e;simp only [List.nodup_cons,List.nodup_append,List.mem_append,List.mem_cons] at hnd;rcases List.mem_cons.1 hpm with e | e
     · subst e;exact hnd.1 (Or.inr (Or.inr ha))
     · exact hnd.2.2.2 _ e _ (Or.inr ha) rfl
   · simp only [List.tail_cons] at ha
     rw [hs] at hnd2;intro e;simp only [Addr.mk.injEq,and_true] at e;subst e;exact (List.nodup_cons.1 hnd2).1 ha
 · intro b' hb'
   exact (((h.blk b' (hsub.subset hb')).setCell _ _).setCell _ _).drew
 · rw [same _ (by simp) (by simp)];exact hb0
 · exact ⟨_,by rw [same _ (by simp) (by simp [hbs])];exact c2⟩
 · exact ⟨_,by rw [same _ (by simp [hbp]) (by simp)];exact c3⟩
 · exact (((h.blk b (by simp)).setCell _ _).setCell _ _).drew
 · exact same _ (by simp) (by simp)
 · refine ((Fr.refl _ w).setCell (fun _=>?_) _).setCell (fun _=>?_) _ |>.drew
   · show p∈_;simp at hpm ⊢;rcases hpm with h | h<;>simp [h]
   · show s∈_;simp at hsm ⊢;rcases hsm with h | h<;>simp [h]
theorem Gd {w:World} {r b:Nat} {k:ByteArray} {ks:List ByteArray} {ns:List Nat} (h:Ring w r ks ns) (hb:b ∉ r :: ns) (hb0:w.cell? ⟨b,0,none⟩=some (.string k))
   {x y:Value} (hb1:w.cell? ⟨b,1,none⟩=some x) (hb2:w.cell? ⟨b,2,none⟩=some y) (hbf:Blk w b) :
   ∃l,l∈r :: ns/\w.cell? ⟨r,1,none⟩=some (P0 l)/\w.cell? ⟨l,2,none⟩=some (P0 r) /\
     ∀W,W=((((w.setCell ⟨b,1,none⟩ (P0 l)).setCell ⟨b,2,none⟩ (P0 r)).setCell ⟨l,2,none⟩ (P0 b)).setCell ⟨r,1,none⟩ (P0 b)).drew.drew ->
       Ring W r (ks++[k]) (ns++[b])/\W.cell? ⟨r,3,none⟩=w.cell? ⟨r,3,none⟩/\Fr (·∈b :: r :: ns) w W:=by
 obtain ⟨xs,l,hl⟩:=Fd r ns;have hL:r :: ns++[r]=xs++l :: [r]:=by rw [hl];simp
 have hlk:=h.linked;rw [hL] at hlk;obtain ⟨lk1,c1,c2,_⟩:=A9.1 hlk;have hlm:l∈r :: ns:=by rw [hl];simp
 have hbl:b≠l:=fun e=>hb (e ▸ hlm);have hbr:b≠r:=fun e=>hb (by simp [e]);refine ⟨l,hlm,c2,c1,?_⟩;rintro W rfl
 have same:∀q:Addr,q≠⟨b,1,none⟩->q≠⟨b,2,none⟩->q≠⟨l,2,none⟩->q≠⟨r,1,none⟩ ->
     (((((w.setCell ⟨b,1,none⟩ (P0 l)).setCell ⟨b,2,none⟩ (P0 r)).setCell ⟨l,2,none⟩ (P0 b)).setCell ⟨r,1,none⟩ (P0 b)).drew.drew).cell? q=w.cell? q:=fun q h1 h2 h3 h4=>by
   rw [World.cell?_drew,World.cell?_drew,Ab (Ne.symm h4),Ab (Ne.symm h3),Ab (Ne.symm h2),Ab (Ne.symm h1)]
 refine ⟨⟨?_,by have:=h.len;simp;omega,by rw [same _ (by simp) (by simp) (by simp) (by simp)];exact h.root,?_,?_,?_⟩,same _ (by simp) (by simp) (by simp) (by simp),?_⟩
 · rw [<-List.cons_append,List.nodup_append]
   exact ⟨h.nd,by simp,fun a ha c hc=>by simp at hc;subst hc;exact fun e=>hb (e ▸ ha)⟩
 · intro i k' b' hk' hb'
   rw [same _ (by simp) (by simp) (by simp) (by simp)];by_cases hi:i<ns.length
   · have:=h.len
     exact h.keys i k' b' (by rw [List.getElem?_append_left (by omega)] at hk'; exact hk') (by rw [List.getElem?_append_left hi] at hb'; exact hb')
   · have:=h.len
     rw [List.getElem?_append_right (by omega)] at hk' hb';have e1:i - ns.length=0:=by
       rcases Nat.eq_zero_or_pos (i - ns.length) with e | e
       · exact e
       · rw [List.getElem?_eq_none (by simp;omega)] at hb'; cases hb'
     rw [e1] at hb';rw [show i - ks.length=0 by omega] at hk';simp at hk' hb';subst hk'; subst hb'; exact hb0
 · have e:r :: (ns++[b])++[r]=xs++l :: b :: [r]:=by
     have:r :: (ns++[b])++[r]=(r :: ns)++b :: [r]:=by simp
     rw [this,hl];simp
   rw [e];refine A9.2 ⟨lk1.of_same (fun a ha=>same _ (by simp) ?_ ?_ (by simp)) (fun a ha=>same _ ?_ (by simp) (by simp) ?_),?_,?_,?_,?_,trivial⟩
   · rw [List.dropLast_concat] at ha
     intro e;simp only [Addr.mk.injEq,and_true] at e;subst e;exact hb (by rw [hl];simp [ha])
   · rw [List.dropLast_concat] at ha
     have:=h.nd;rw [hl] at this;intro e;simp only [Addr.mk.injEq,and_true] at e;subst e;exact (List.nodup_append.1 this).2.2 _ ha _ (by simp) rfl
   · rw [<-hl] at ha
     intro e;simp only [Addr.mk.injEq,and_true] at e;subst e;exact hb (List.mem_of_mem_tail ha)
   · rw [<-hl] at ha
     intro e;simp only [Addr.mk.injEq,and_true] at e;subst e;exact (List.nodup_cons.1 h.nd).1 (by simpa using ha)
   · rw [World.cell?_drew,World.cell?_drew,Ab (by simp)]
     exact Af (by rw [Ab (by simp [hbl]),Ab (by simp)];exact c1)
   · rw [World.cell?_drew,World.cell?_drew,Ab (by simp [Ne.symm hbr]),Ab (by simp),Ab (by simp)]
     exact Af hb1
   · rw [World.cell?_drew,World.cell?_drew,Ab (by simp),Ab (by simp [Ne.symm hbl])]
     exact Af (by rw [Ab (by simp)];exact hb2)
   · rw [World.cell?_drew,World.cell?_drew]
     exact Af (by rw [Ab (by simp),Ab (by simp),Ab (by simp [hbr])];exact c2)
 · intro b' hb'
   refine (((((Blk.setCell ?_ _ _).setCell _ _).setCell _ _).setCell _ _).drew).drew;simp only [List.mem_cons,List.mem_append,List.not_mem_nil,or_false] at hb';rcases hb' with rfl | hb' | rfl
   · exact h.blk _ (by simp)
   · exact h.blk _ (by simp [hb'])
   · exact hbf
 · refine ((((Fr.refl _ w).setCell (fun _=>?_) _).setCell (fun _=>?_) _).setCell (fun _=>?_) _).setCell (fun _=>?_) _ |>.drew.drew
   · show b∈_;simp
   · show b∈_;simp
   · show l∈_;exact List.mem_cons_of_mem _ hlm
   · show r∈_;simp
end Go.Proofs.YtfaihaoajdcjbaaGreatDoor
