/- client.Words: its walk. -/
import Derived.Test.YtfaihaoajdcjbaaGreatDoorJ7
set_option linter.all false
namespace Go.Proofs.YtfaihaoajdcjbaaGreatDoor
open Go.RowKit Go.Joins
attribute [local go_sem] Oper.semAt_some
def World.size9 (w:World):Nat:=w.heap.size
structure WS (w0:World) (B C:Nat) (cs:List Value) (W:World) (ws:List ByteArray):Prop where
 out:WOut (B+1) W C ws
 box:W.rangeAt B 0 cs
 below:Below B w0 W
theorem WS.grow {w0 W W' : World} {B C:Nat} {cs:List Value} {ws:List ByteArray} (h:WS w0 B C cs W ws) (hb:Below W.heap.size W W'):WS w0 B C cs W' ws:=
 ⟨h.out.below hb,fun j u hj=>Aa hb _ _ (h.box j u hj),h.below.trans (hb.mono (by have h1:=h.out.blk.lt;have h2:=h.out.le;omega))⟩
theorem WS.step {w0 W w1:World} {B C:Nat} {cs:List Value} {ws ys:List ByteArray} {vo v:Value} (h:WS w0 B C cs W ws) (hB0:B<=w0.heap.size) (hc:W.cell? ⟨C,0,none⟩=some vo) (hr:W.ownsRow (B+1) 9 1 vo ws.length (ws.map Value.string)) (hne:vo.ownBlock≠some C) (ha:WAp (B+1) W vo (ws++ys) v w1) :
   WS w0 B C cs (w1.setCell ⟨C,0,none⟩ v) (ws++ys):=by
 obtain ⟨h1,h2⟩:=WOut.step hc h.out.blk h.out.le hne ha;have hle:=h.out.le;refine ⟨h1,fun j u hj=>h2.cell (h.box j u hj) (fun e=>?_),h.below.trans (h2.below (Nat.le_trans hB0 h.below.size) (fun i hi e=>?_))⟩
 · rcases e with e | e
   · have e:B=C:=e
     omega
   · have:=(An hr B e).1;omega
 · rcases e with e | e
   · omega
   · have:=(An hr i e).1;omega
structure WJ (w0:World) (B C:Nat) (cs:List Value) (D:Nat) (rl:Loop) (p0 p1 p2:Bool) (ws:List ByteArray) (W:World):Prop where
 s:WS w0 B C cs W ws
 away:∀v k,W.cell? ⟨C,0,none⟩=some v->v.ownBlock=some k->k<D\/D+2<k
 lp:W.heap[D+1]?=some (.loop rl)
 df:W.heap[D]?=some (.deferred (some []))
 x0:W.cell? ⟨D+2,0,none⟩=some (.bool p0)
 x1:W.cell? ⟨D+2,1,none⟩=some (.bool p1)
 x2:W.cell? ⟨D+2,2,none⟩=some (.bool p2)
theorem WJ.turn {w0:World} {B C:Nat} {cs:List Value} {D:Nat} {rl:Loop} {p0 p1 p2:Bool} {ws:List ByteArray} {W:World} (h:WJ w0 B C cs D rl p0 p1 p2 ws W) (hC:C<D) (hB0:B<=w0.heap.size) (rl' : Loop):WJ w0 B C cs D rl' p0 p1 p2 ws (W.putObj (D+1) (.loop rl')):=by
 have hf:=Gi W (D+1) (.loop rl');have hlt:D+1<W.heap.size:=(Array.getElem?_eq_some_iff.1 h.lp).1;have hle:=h.s.out.le;obtain ⟨v,h1,h2,h3⟩:=h.s.out.out;have hv:∀k,v.ownBlock=some k->¬k=D+1:=fun k hk e=>by have:=h.away v k h1 hk;omega
 have h1' := hf.cell h1 (by show ¬C=D+1;omega)
 exact ⟨⟨⟨⟨v,h1', Dj h2 hf hv,h3⟩,h.s.out.blk.fr hf (by show ¬C=D+1;omega),hle⟩,fun j u hj=>hf.cell (h.s.box j u hj) (by show ¬B=D+1;omega),h.s.below.trans (hf.below (by have:=h.s.out.blk.lt;omega) (fun i hi e=>by omega))⟩,
   fun v' k hc hk=>by rw [h1'] at hc;cases hc;exact h.away v k h1 hk,World.putObj_heap_same hlt,(hf.block D (by omega) (by show ¬D=D+1;omega)).trans h.df,hf.cell h.x0 (by show ¬D+2=D+1;omega),hf.cell h.x1 (by show ¬D+2=D+1;omega),hf.cell h.x2 (by show ¬D+2=D+1;omega)⟩
theorem WJ.step {w0:World} {B C:Nat} {cs:List Value} {D:Nat} {rl:Loop} {p0 p1 p2:Bool} {ws:List ByteArray} {W w1:World} {vo v:Value} {x:ByteArray} (h:WJ w0 B C cs D rl p0 p1 p2 ws W) (hC:C<D) (hB0:B<=w0.heap.size) (hc:W.cell? ⟨C,0,none⟩=some vo) (hr:W.ownsRow (B+1) 9 1 vo ws.length (ws.map Value.string)) (hne:vo.ownBlock≠some C)
   (g1:w1.ownsRow (B+1) 9 1 v (ws.length+1) (ws.map Value.string++[.string x])) (g2:Fr (fun k=>vo.ownBlock=some k) W w1) (g3:∀k,v.ownBlock=some k->vo.ownBlock=some k\/W.heap.size<k) :
   WJ w0 B C cs D rl p0 p1 p2 (ws++[x]) (w1.setCell ⟨C,0,none⟩ v):=by
 have hlt:D+1<W.heap.size:=(Array.getElem?_eq_some_iff.1 h.lp).1;have hx2:D+2<W.heap.size:=World.block_lt_of_cell? _ _ h.x0;have ha:WAp (B+1) W vo (ws++[x]) v w1:=⟨by simpa using g1,g2,fun k hk=>(g3 k hk).imp id Nat.le_of_lt⟩;have hf:Fr (fun k=>k=C\/vo.ownBlock=some k) W (w1.setCell ⟨C,0,none⟩ v):=(g2.mono (fun _ _ e=>.inr e)).setCell (fun _=>.inl rfl) _;have hv:∀k,D<=k->k<=D+2->¬(k=C\/vo.ownBlock=some k):=fun k h1 h2 e=>by
   rcases e with e | e
   · omega
   · have:=h.away vo k hc e;omega
 refine ⟨h.s.step hB0 hc hr hne ha,fun v' k hc' hk=>?_,(hf.block _ (by omega) (hv (D+1) (by omega) (by omega))).trans h.lp,(hf.block _ (by omega) (hv D (by omega) (by omega))).trans h.df,hf.cell h.x0 (hv (D+2) (by omega) (by omega)),hf.cell h.x1 (hv (D+2) (by omega) (by omega)),hf.cell h.x2 (hv (D+2) (by omega) (by omega))⟩;rw [Af (g2.cell hc hne)] at hc';cases hc'
 rcases g3 k hk with e | e
 · exact h.away vo k hc e
 · exact .inr (by omega)
namespace R2
set_option maxRecDepth 100000 in
set_option maxHeartbeats 12800000 in
theorem words_any (m:Md) (hg:m.good) {w0:World} {pa:Option Addr} {n pc:Nat} (hx:Reads w0 1 (.slice pa n pc) n (m.prefixes.map Value.string)) (hN:Nums w0) :
   Calls Tryz.prog 32 #[C5 m (.slice pa n pc)] w0 fun e w' => ∃a' c', e=.returned (.slice a' (A4 m).length c')/\Reads w' 1 (.slice a' (A4 m).length c') (A4 m).length ((A4 m).map Value.string)/\Below w0.heap.size w0 w' := by
 have hll:m.prefixes.length=n:=by have:=hx.len.2;simpa using this
 have hn32:n<=32:=by
   cases hb:m.bcast with
   | false=>rw [<-hll,hg.no hb];exact Nat.zero_le _
   | true=>rw [<-hll];exact (hg.pre hb).2.2
 obtain ⟨m9,hm9⟩:∃m9,m9=m:=⟨_,rfl⟩;rw [<-hm9];obtain ⟨on,bcast,optin,optout,noloop,rd,prefixes⟩:=m;obtain ⟨B,hB⟩:∃B,B=w0.heap.size:=⟨_,rfl⟩;obtain ⟨W1,hW1⟩:∃W1,W1=w0.alloc (.cells #[.bool on,.bool bcast,.bool optin,.bool optout,.bool noloop,.int .i64 rd,.slice pa n pc] 24):=⟨_,rfl⟩;obtain ⟨W2,hW2⟩:∃W2,W2=W1.alloc (.cells #[.string B2,.string Be,.string tOn] 9):=⟨_,rfl⟩;obtain ⟨W4,hW4⟩:∃W4,W4=W2.alloc (.cells #[.slice (some ⟨B+1,0,none⟩) 3 3] 22):=⟨_,rfl⟩;obtain ⟨C,hC⟩:∃C,C=B+1+1:=⟨_,rfl⟩;have b1:Below w0.heap.size w0 W1:=by rw [hW1];exact (Below.refl _ _).alloc (Nat.le_refl _) _
 have b2:Below W1.heap.size W1 W2:=by rw [hW2];exact (Below.refl _ _).alloc (Nat.le_refl _) _
 have b4:Below W2.heap.size W2 W4:=by rw [hW4];exact (Below.refl _ _).alloc (Nat.le_refl _) _
 have s1:W1.heap.size=B+1:=by rw [hW1,hB];simp
 have s2:W2.heap.size=C:=by rw [hC,hW2];simp [s1]
 have b04:=(b1.trans (b2.mono b1.size)).trans (b4.mono (Nat.le_trans b1.size b2.size));have hS:WS w0 B C [.bool on,.bool bcast,.bool optin,.bool optout,.bool noloop,.int .i64 rd,.slice pa n pc] W4 [B2,Be,tOn]:=by
   have own2:W2.ownsRow (B+1) 9 1 (.slice (some ⟨B+1,0,none⟩) 3 3) 3 ([B2,Be,tOn].map Value.string):=by
     rw [hW2,<-s1];exact World.ownsRow_lit W1 #[.string B2,.string Be,.string tOn] 3 (Nat.le_refl _) (by decide) (by rfl)
   have hc4:W4.cell? ⟨C,0,none⟩=some (.slice (some ⟨B+1,0,none⟩) 3 3):=by rw [hW4,<-s2,World.cell?_alloc_new];rfl
   have hk4:Blk W4 C:=by rw [hW4,<-s2];exact Blk.new _ _ _
   refine ⟨⟨⟨_,hc4,Br own2 b4 (Nat.le_refl _),fun e=>?_⟩,hk4,by omega⟩,fun j u hj=>?_,?_⟩
   · have e1:B+1=C:=by simpa [Value.ownBlock] using e
     omega
   · refine Aa b4 _ _ (Aa b2 _ _ ?_)
     rw [hW1,hB,Nat.zero_add,World.cell?_alloc_new];simpa using hj
   · rw [hB];exact b04
 have hxB:=Hd (fun (W:World) (hb:Below B w0 W)=>hx.below (by rw [<-hB];exact hb));have hNB:=Hd (fun (W:World) (hb:Below B w0 W)=>hN.below (by rw [<-hB];exact hb));have hB0:B<=w0.heap.size:=by omega
 replace hx:=Hd hx;replace hN:=Hd hN;replace hS:=Hd hS;replace hW1:=Hd hW1;replace hW2:=Hd hW2;replace hW4:=Hd hW4;replace hC:=Hd hC;replace hB:=Hd hB;replace hll:=Hd hll;replace hg:=Hd hg;clear b1 b2 b4 b04 s1 s2;refine (callsIn_wide (n:=3)).1 ?_;refine callsIn_of_wp_marks Tryz.func32 rfl trivial ?_ rfl;rw [wpIn_wide];simp only [Tryz.ntmps32,List.size_toArray,List.length_cons,List.length_nil,Nat.reduceAdd,Nat.reduceSub,Array.replicate_succ,Array.replicate_zero,List.push_toArray,List.append_toArray,List.nil_append,List.cons_append];go_upto_region 2 with fail
 rw [<-hW1.out,<-hW2.out,<-hB.out,<-hC.out,<-hW4.out];have hm9e:C5 m9 (.slice pa n pc)=C5 ⟨on,bcast,optin,optout,noloop,rd,prefixes⟩ (.slice pa n pc):=by rw [hm9]
 obtain ⟨cs,hcs⟩:∃cs:List Value,cs=[.bool on,.bool bcast,.bool optin,.bool optout,.bool noloop,.int .i64 rd,.slice pa n pc]:=⟨_,rfl⟩;rw [<-hcs] at hS;have hcell:∀(wx:World) (l:List ByteArray),WS w0 B C cs wx l->∀(j:Nat) (u:Value),[Value.bool on,.bool bcast,.bool optin,.bool optout,.bool noloop,.int .i64 rd,.slice pa n pc][j]?=some u->wx.cell? ⟨B,j,none⟩=some u:=fun wx l h j u hu=>by
   have:=h.box j u (by rw [hcs];exact hu);rwa [Nat.zero_add] at this
 replace hcell:=Hd hcell;replace hcs:=Hd hcs;replace hm9:=Hd hm9;clear hm9e;have d5:=hcell.out _ _ hS.out 5 _ rfl;obtain ⟨q1,hq1⟩:∃q1:Bool,q1=decide (rd≠0):=⟨_,rfl⟩;replace hq1:=Hd hq1
 go_cut [11] from 9 to 11 (fun s5 wx=>s5=.bool q1/\wx=W4)
 case first=>
   by_cases h0:rd=0
   · have h0b:(rd == 0)=true:=by rw [h0];rfl
     obtain rfl:q1=false:=by rw [hq1.out];exact decide_eq_false (fun h=>h h0)
     replace h0:=Hd h0;go_wp2_with fail
     go_meet
     exact ⟨by simp [bne,h0b],rfl⟩
   · have h0b:(rd == 0)=false:=by rw [beq_eq_false_iff_ne];exact h0
     obtain rfl:q1=true:=by rw [hq1.out];exact decide_eq_true h0
     replace h0:=Hd h0;go_wp2_with fail
     go_meet
     exact ⟨by simp [bne,h0b],rfl⟩
 obtain ⟨rfl,hww⟩:=hcut;obtain rfl:=hww.symm;clear hww;obtain ⟨ws5,hws5⟩:∃ws5,ws5=[B2,Be,tOn]++(if rd=0 then [] else [Ap,⟨(Lib.itoa rd).toArray⟩]):=⟨_,rfl⟩;replace hws5:=Hd hws5
 go_upto_if 11 with fail
 go_cut [] from 12 to 17 (fun wx=>WS w0 B C cs wx ws5)
 case first=>
   cases q1 with
   | false=>
     have h0:rd=0:=by
       have:=of_decide_eq_false hq1.out.symm;exact Decidable.not_not.1 this
     have hS5:WS w0 B C cs W4 ws5:=by rw [hws5.out,if_pos h0];exact hS.out
     replace hS5:=Hd hS5;replace h0:=Hd h0;go_wp2_with fail
     go_meet
     exact hS5.out
   | true=>
     have h0:rd≠0:=of_decide_eq_true hq1.out.symm;obtain ⟨rT,hrT⟩:∃rT:ByteArray,rT=⟨(Lib.itoa rd).toArray⟩:=⟨_,rfl⟩;have e5:ws5=[B2,Be,tOn]++[Ap,rT]:=by rw [hws5.out,if_neg h0,hrT]
     obtain ⟨U,hU⟩:∃U,U=W4:=⟨_,rfl⟩;rw [<-hU] at hS d5 ⊢;clear hU hW4;obtain ⟨ws,hws⟩:∃ws,ws=[B2,Be,tOn]:=⟨_,rfl⟩;rw [<-hws] at hS e5;replace e5:=Hd e5;obtain ⟨vo,d0,hrow,hne⟩:=hS.out.out.out;obtain ⟨av,ac,rfl⟩:=(Reads.of_owns hrow).shape;obtain ⟨n0,hn0e⟩:∃n0,n0=B+1:=⟨_,rfl⟩;have hblk:=hS.out.out.blk;have hcb:¬(Value.slice av ws.length ac).ownBlock=some C:=hne;have hn9:ws.length+2<1000000000:=by rw [hws];decide
     have hn0:n0<=U.heap.size:=by have h1:=hblk.lt;have h2:=hS.out.out.le;omega
     have hbU:=hS.out.below;have hBU:B<=U.heap.size:=by omega
     have hr0:=hg.out.r0;have hr1:=hg.out.r1;have hr0:0<=rd:=hr0;have hr1:rd<=1000000000:=hr1;have htx:∀wx,Below U.heap.size U wx->Calls Tryz.prog 54 #[.int .i64 rd] wx fun e w' => ∃v,e=.returned v/\Fr (fun k=>k=C\/(Value.slice av ws.length ac).ownBlock=some k) U w' /\ Below wx.heap.size wx w' /\ v=.string rT/\Below U.heap.size U w' := fun wx hI=>
       (Dl rd (by omega) (by omega) wx (hNB.out wx (hbU.trans (hI.mono hBU)))).mono fun e w' ⟨he,hb⟩=>⟨_,he,Ar (hI.trans (hb.mono hI.size)),hb,by rw [hrT],hI.trans (hb.mono hI.size)⟩
     rw [<-hn0e] at hrow;replace htx:=Hd htx;replace hrow:=Hd hrow;replace hblk:=Hd hblk;replace hbU:=Hd hbU;replace hrT:=Hd hrT;replace hws:=Hd hws;replace h0:=Hd h0;replace hn0e:=Hd hn0e;clear hr0 hr1 hne;go_wp2_with fail
     have htx:=htx.out;have hrow:=hrow.out;have hblk:=hblk.out;refine wp_region_rely (l:=[_,_,_,_,_,_,_]) (Fr (fun k=>k=C\/(Value.slice av ws.length ac).ownBlock=some k) U) (Below U.heap.size U) (wtR C (Value.slice av ws.length ac)) (fun kG_=>([fun v _=>v=.slice av ws.length ac,fun v _=>v=.pointer (some ⟨B,5,none⟩),fun v _=>v=.int .i64 rd,fun v w=>v=.string rT/\Below U.heap.size U w,fun v w=>∃b,v=.slice (some ⟨b,0,none⟩) 2 2/\w.rangeAt b 0 [.string Ap,.string rT]/\Below U.heap.size U w,fun v w=>WAp n0 U (.slice av ws.length ac) (ws++[Ap,rT]) v w,fun v w=>∃(v1:Value) (w1:World),w=w1.setCell ⟨C,0,none⟩ v1/\WAp n0 U (.slice av ws.length ac) (ws++[Ap,rT]) v1 w1]:List (Value->World->Prop)).getD kG_ (fun _ _=>True)) (eats [(4,3),(5,4),(6,5)]) (isIn [5,6]) (by kernel_rfl) (by kernel_rfl) (by kernel_rfl) ((Fr.refl _ _).drew) ((Below.refl _ _).drew) ?_ ?_ ?_ ?_
     · intro i kG_ u w w' hne hE hg hr
       rcases kG_ with _ | _ | _ | _ | _ | _ | _ | kG_
       · exact hg
       · exact hg
       · exact hg
       · replace hg:(fun (v:Value) (w:World)=>v=.string rT/\Below U.heap.size U w) u w:=hg
         show (fun (v:Value) (w:World)=>v=.string rT/\Below U.heap.size U w) u w';dsimp only at hg ⊢;replace hE:exB _ _ i 3=false:=hE;replace hne:3≠i:=hne;unfold wtR at hr;split at hr
         all_goals first
           | exact absurd rfl hne
           | exact absurd (hE.symm.trans (by decide +kernel:exB _ _ _ _=true)) (by decide)
           | (subst hr;exact hg)
           | (fail)
       · replace hg:(fun (v:Value) (w:World)=>∃b,v=.slice (some ⟨b,0,none⟩) 2 2/\w.rangeAt b 0 [.string Ap,.string rT]/\Below U.heap.size U w) u w:=hg
         show (fun (v:Value) (w:World)=>∃b,v=.slice (some ⟨b,0,none⟩) 2 2/\w.rangeAt b 0 [.string Ap,.string rT]/\Below U.heap.size U w) u w';dsimp only at hg ⊢;replace hE:exB _ _ i 4=false:=hE;replace hne:4≠i:=hne;unfold wtR at hr;split at hr
         all_goals first
           | exact absurd rfl hne
           | exact absurd (hE.symm.trans (by decide +kernel:exB _ _ _ _=true)) (by decide)
           | (subst hr;exact hg)
           | (fail)
       · replace hg:(fun (v:Value) (w:World)=>WAp n0 U (.slice av ws.length ac) (ws++[Ap,rT]) v w) u w:=hg
         show (fun (v:Value) (w:World)=>WAp n0 U (.slice av ws.length ac) (ws++[Ap,rT]) v w) u w';dsimp only at hg ⊢;replace hE:exB _ _ i 5=false:=hE;replace hne:5≠i:=hne;unfold wtR at hr;split at hr
         all_goals first
           | exact absurd rfl hne
           | exact absurd (hE.symm.trans (by decide +kernel:exB _ _ _ _=true)) (by decide)
           | (subst hr;exact hg)
           | (fail)
       · replace hg:(fun (v:Value) (w:World)=>∃(v1:Value) (w1:World),w=w1.setCell ⟨C,0,none⟩ v1/\WAp n0 U (.slice av ws.length ac) (ws++[Ap,rT]) v1 w1) u w:=hg
         show (fun (v:Value) (w:World)=>∃(v1:Value) (w1:World),w=w1.setCell ⟨C,0,none⟩ v1/\WAp n0 U (.slice av ws.length ac) (ws++[Ap,rT]) v1 w1) u w';dsimp only at hg ⊢;replace hE:exB _ _ i 6=false:=hE;replace hne:6≠i:=hne;unfold wtR at hr;split at hr
         all_goals first
           | exact absurd rfl hne
           | exact absurd (hE.symm.trans (by decide +kernel:exB _ _ _ _=true)) (by decide)
           | (subst hr;exact hg)
           | (fail)
       · trivial
     · intro i w w' hF hI hr
       unfold wtR at hr;split at hr
       · exact hI.trans (hr.mono hI.size)
       · exact hI.trans (hr.mono hI.size)
       · exact absurd hF (by decide)
       · exact absurd hF (by decide)
       · subst hr;exact hI
     · refine ⟨?_,?_,?_,?_,?_,?_,?_,trivial⟩
       · refine VC.plain rfl fun a wx hf=>?_
         have s3:=hf.old 3 (by first | rfl | kernel_rfl);have q3:=Ac s3;have hI:=hf.start (by kernel_rfl);have hc:=Aa hI _ _ d0;exact gives_value (by simp [go_sem,q3,hc]) ⟨hf.c,rfl,rfl⟩
       · refine VC.plain rfl fun a wx hf=>?_
         have s1:=hf.old 1 (by first | rfl | kernel_rfl);have q1:=Ac s1;exact gives_value (by simp [go_sem,q1]) ⟨hf.c,rfl,rfl⟩
       · refine VC.plain rfl fun a wx hf=>?_
         obtain ⟨v13,g13,s13⟩:=hf.got 1 (by kernel_rfl) (by intro j hj;simp [eats] at hj) rfl rfl;replace s13:=s13.trans (show v13=.pointer (some ⟨B,5,none⟩) from g13);clear g13;have q13:=Ac s13;have hI:=hf.start (by kernel_rfl);have hc:=Aa hI _ _ d5;exact gives_value (by simp [go_sem,q13,hc]) ⟨hf.c,rfl,rfl⟩
       · refine VC.plain rfl fun a wx hf=>?_
         obtain ⟨v14,g14,s14⟩:=hf.got 2 (by kernel_rfl) (by intro j hj;simp [eats] at hj) rfl rfl;replace s14:=s14.trans (show v14=.int .i64 rd from g14);clear g14;have q14:=Ac s14;have hI:=hf.start (by kernel_rfl);exact Ds (f:=54) (args:=#[.int .i64 rd]) (by simp [go_sem,q14]) (htx wx hI)
       · refine VC.plain rfl fun a wx hf=>?_
         obtain ⟨v15,g15,s15⟩:=hf.got 3 (by kernel_rfl) (by intro j hj;simp [eats] at hj;omega) rfl rfl;have q15:=Ac s15;replace g15:(fun (v:Value) (w:World)=>v=.string rT/\Below U.heap.size U w) v15 wx:=g15;dsimp only at g15;have hI:=hf.start (by kernel_rfl);obtain ⟨rfl,_⟩:=g15;have hal:=(Below.refl wx.heap.size wx).alloc (Nat.le_refl _) (.cells #[.string Ap,.string rT] 9);have hfw:=hI.trans (hal.mono hI.size);exact gives_value (u:=.slice (some ⟨wx.heap.size,0,none⟩) 2 2) (w' := wx.alloc (.cells #[.string Ap,.string rT] 9)) (by simp [go_sem,q15,Tryz.underlying22]) ⟨Ar hfw,hal,wx.heap.size,rfl,fun j u hj=>(by rw [Nat.zero_add,World.cell?_alloc_new];simpa using hj),hfw⟩
       · refine VC.plain rfl fun a wx hf=>?_
         obtain ⟨v12,g12,s12⟩:=hf.got 0 (by kernel_rfl) (by intro j hj;simp [eats] at hj) rfl rfl;replace s12:=s12.trans (show v12=.slice av ws.length ac from g12);clear g12;have q12:=Ac s12;obtain ⟨v16,g16,s16⟩:=hf.got 4 (by kernel_rfl) (by intro j hj;simp [eats] at hj;omega) rfl rfl;have q16:=Ac s16;replace g16:(fun (v:Value) (w:World)=>∃b,v=.slice (some ⟨b,0,none⟩) 2 2/\w.rangeAt b 0 [.string Ap,.string rT]/\Below U.heap.size U w) v16 wx:=g16;dsimp only at g16;have hI:=hf.start (by kernel_rfl);obtain ⟨b,rfl,g1,g2⟩:=g16;have hr9:Reads wx 1 (.slice (some ⟨b,0,none⟩) 2 2) 2 ([Ap,rT].map Value.string):=⟨_,_,rfl,rfl,fun j u hj=>⟨b,0,rfl,g1 j u hj⟩⟩;obtain ⟨v', w', hrun,h1,h2,h3⟩:=Fe (P:=Tryz.prog) 22 eStrC (Br hrow hI (Nat.le_refl _)) hr9 (fun h=>by cases h) (by simp [Value.oneCell']) hn9 (Nat.le_trans hn0 hI.size)
         have hfw:Fr (fun k=>(Value.slice av ws.length ac).ownBlock=some k) U w' := Fr.trans (Ar hI) h2;exact gives_value (u:=v') (w' := w') (by simp [execOp,resolve,invoke,builtin,s12,s16,hrun]) ⟨hfw.mono (fun _ _ e=>.inr e),h2,by simpa using h1,hfw,fun k hk=>(h3 k hk).imp id (fun h=>Nat.le_trans hI.size h)⟩
       · refine VC.plain rfl fun a wx hf=>?_
         have s3:=hf.old 3 (by first | rfl | kernel_rfl);have q3:=Ac s3;obtain ⟨v17,g17,s17⟩:=hf.got 5 (by kernel_rfl) (by intro j hj;simp [eats] at hj;omega) rfl rfl;have q17:=Ac s17;replace g17:(fun (v:Value) (w:World)=>WAp n0 U (.slice av ws.length ac) (ws++[Ap,rT]) v w) v17 wx:=g17;dsimp only at g17;obtain ⟨h1,h2,h3⟩:=g17;obtain ⟨a9,c9,rfl⟩:=(Reads.of_owns h1).shape;have hc:wx.cell? ⟨C,0,none⟩=some (.slice av ws.length ac):=h2.cell d0 hcb;exact gives_skip (w' := wx.setCell ⟨C,0,none⟩ _) (by simp [go_sem,q3,q17,hc,(hblk.fr h2 hcb).frz 0 none]) ⟨(h2.mono (fun _ _ e=>.inr e)).setCell (fun _=>.inl rfl) _,((Fr.refl (fun k=>k=C) wx).setCell (fun _=>rfl) _:Fr (fun k=>k=C) wx _),_,wx,rfl,h1,h2,h3⟩
     · intro vs w8 _ hG
       obtain ⟨v2,w2,e2,hak⟩:=hG 6 (by decide) (by decide);rw [hn0e.out] at hak hrow;have hS5:=hS.out.step hB0 d0 hrow hcb hak;rw [<-e2,<-e5.out] at hS5;clear hG htx hrow hblk hak e2;replace hS5:=Hd hS5;simp only [Al,Act.put,List.setIfInBounds_toArray,List.set_cons_zero,List.set_cons_succ];go_wp2_with fail
       go_meet
       exact hS5.out
 have c1:=hcell.out _ _ hcut 1 _ rfl;obtain ⟨ws6,hws6⟩:∃ws6,ws6=ws5++(if bcast=true then [C0] else []):=⟨_,rfl⟩;have hl6:ws6.length<=6:=by
   rw [hws6,hws5.out];split<;>split<;>simp
 clear hS d5 hW4
 rename World=>U5
 replace hcut:=Hd hcut;replace hws6:=Hd hws6
 go_upto_if 19 with fail
 go_cut [] from 20 to 22 (fun wx=>WS w0 B C cs wx ws6)
 case first=>
   cases bcast with
   | false=>
     have hS6:WS w0 B C cs U5 ws6:=by rw [hws6.out];simpa using hcut.out
     replace hS6:=Hd hS6;go_wp2_with fail
     go_meet
     exact hS6.out
   | true=>
     have e6:ws6=ws5++[C0]:=hws6.out;have hn9:ws5.length+1<1000000000:=by have:=congrArg List.length e6;simp at this;omega
     obtain ⟨vo9,d09,hrow9,hne9⟩:=(hcut.out).out.out;obtain ⟨av,ac,rfl⟩:=(Reads.of_owns hrow9).shape;have hblk9:=(hcut.out).out.blk;have hz9:=hblk9.frz 0 none;have hB9:B+1<=World.size9 U5:=by have h1:=hblk9.lt;have h2:=(hcut.out).out.le;show B+1<=(World.heap U5).size;omega
     have hal9:=(Below.refl (World.heap U5).size U5).alloc (Nat.le_refl _) (.cells #[.string C0] 9);have hr9:Reads (World.alloc U5 (.cells #[.string C0] 9)) 1 (.slice (some ⟨(World.heap U5).size,0,none⟩) 1 1) 1 ([C0].map Value.string):=⟨_,_,rfl,rfl,fun j u hj=>⟨_,0,rfl,by rw [Nat.zero_add,World.cell?_alloc_new];simpa using hj⟩⟩;have hro9:=Hd (Br hrow9 hal9 (Nat.le_refl _));have hle9:B+1<=(World.alloc U5 (.cells #[.string C0] 9)).heap.size:=Nat.le_trans hB9 hal9.size;replace hal9:=Hd hal9;replace hr9:=Hd hr9;replace hrow9:=Hd hrow9;replace hblk9:=Hd hblk9;have tok9:True:=trivial;go_wp2_with (at_builtin;have _t:=tok9;refine Da rfl rfl eStrC rfl hro9.out rfl hr9.out (fun h=>by cases h) (by simp [Value.oneCell']) hn9 hle9 ?_;clear tok9 _t)
     intro v9 w9 hown9 hf9 hn99;have hf99:=Fr.trans (Ar (S:=fun k=>(Value.slice av (List.length ws5) ac).ownBlock=some k) hal9.out) hf9;obtain ⟨a99,c99,rfl⟩:=(Reads.of_owns hown9).shape;have hS9:=(hcut.out).step hB0 d09 hrow9.out hne9 (w1:=w9) (ys:=[C0]) ⟨by simpa using hown9,hf99,fun k hk=>(hn99 k hk).imp id (fun h=>by first | omega | exact Nat.le_trans hal9.out.size h)⟩;have d99:=hf99.cell d09 hne9;have z99:=(hblk9.out.fr hf99 hne9).frz 0 none;clear hown9 hf9 hn99 hf99 hal9 hr9 hro9 hrow9 hblk9;rw [<-e6] at hS9;replace hS9:=Hd hS9;go_wp2_with fail
     go_meet
     exact hS9.out
 have c6:=hcell.out _ _ hcut 6 _ rfl
 rename World=>U6
 replace hcut:=Hd hcut;go_wp2_with fail
 go_loopw [26] (fun i wr=>∃j:Nat,j<=n/\i=.int .i64 (j:Int)/\WS w0 B C cs wr (ws6++(prefixes.take j).flatMap preW)) (fun i _=>n - (intOf i).toNat)
 case atStart=>exact ⟨0,Nat.zero_le _,rfl,by simpa using hcut.out⟩
 case round=>
   obtain ⟨j,hj,rfl,hSr⟩:=hrel;have hlen9:((prefixes.take j).flatMap preW).length<=2 * j:=by
     have key:∀l:List ByteArray,(l.flatMap preW).length<=2 * l.length:=fun l=>by
       induction l with
       | nil=>simp
       | cons x l ih=>
         rw [List.flatMap_cons,List.length_append,List.length_cons];have:(preW x).length<=2:=by unfold preW;split<;>simp
         omega
     have:=key (prefixes.take j);rw [List.length_take] at this;omega
   by_cases hlt:j<n
   · have hlti:(j:Int)<n:=by omega
     have hpl:prefixes.length=n:=hll.out;have hjl:j<prefixes.length:=by omega
     obtain ⟨b9,o9,he,hc⟩:=(hxB.out wr hSr.below).at (j:=j) (by simpa using hjl);cases he
     have hc0:=hc j (.string prefixes[j]) (by show (prefixes.map Value.string)[j]?=_;rw [List.getElem?_map,List.getElem?_eq_getElem hjl];rfl);obtain ⟨p,hp⟩:∃p,p=prefixes[j]:=⟨_,rfl⟩;rw [<-hp] at hc0;have htk:(prefixes.take (j+1)).flatMap preW=(prefixes.take j).flatMap preW++preW p:=by rw [hp,List.take_succ_eq_append_getElem hjl,List.flatMap_append];simp
     have hw2:IntKind.i64.wrap ((j:Int)+1)=((j+1:Nat):Int):=by rw [IntWalk.i64_in _ (by omega)];rfl
     obtain ⟨wsj,hwsj⟩:∃wsj,wsj=ws6++(prefixes.take j).flatMap preW:=⟨_,rfl⟩;have hlj:wsj.length<=6+2 * j:=by rw [hwsj,List.length_append];omega
     rw [<-hwsj] at hSr;have hnx:ws6++(prefixes.take (j+1)).flatMap preW=wsj++preW p:=by rw [htk,hwsj,List.append_assoc]
     clear hc htk hpl hlen9 hcut;replace hSr:=Hd hSr;replace hp:=Hd hp;replace hnx:=Hd hnx;replace hwsj:=Hd hwsj;by_cases hpe:p=⟨#[]⟩
     · have hpb:(p.toList == [])=true:=by rw [hpe,ByteArray.toList_eq];rfl
       have hSn:WS w0 B C cs wr (ws6++(prefixes.take (j+1)).flatMap preW):=by
         rw [hnx.out,show preW p=[] by unfold preW;rw [if_pos hpe],List.append_nil];exact hSr.out
       replace hSn:=Hd hSn;replace hpe:=Hd hpe;go_wp2_with fail
       go_roundw
       case rel=>exact ⟨j+1,by omega,by first | rfl | go_num,hSn.out⟩
       case measure=>simp [intOf];omega
     · have hpb:(p.toList == [])=false:=by
         rw [beq_eq_false_iff_ne];intro e;exact hpe (Er (by rw [e,ByteArray.toList_eq]))
       have hpw:preW p=[Co,p]:=by unfold preW;rw [if_neg hpe]
       have hn9:wsj.length+2<1000000000:=by omega
       replace hpe:=Hd hpe;replace hpw:=Hd hpw;obtain ⟨vo9,d09,hrow9,hne9⟩:=(hSr.out).out.out;obtain ⟨av,ac,rfl⟩:=(Reads.of_owns hrow9).shape;have hblk9:=(hSr.out).out.blk;have hz9:=hblk9.frz 0 none;have hB9:B+1<=World.size9 wr:=by have h1:=hblk9.lt;have h2:=(hSr.out).out.le;show B+1<=(World.heap wr).size;omega
       have hal9:=(Below.refl (World.heap wr).size wr).alloc (Nat.le_refl _) (.cells #[.string Co,.string p] 9);have hr9:Reads (World.alloc wr (.cells #[.string Co,.string p] 9)) 1 (.slice (some ⟨(World.heap wr).size,0,none⟩) 2 2) 2 ([Co,p].map Value.string):=⟨_,_,rfl,rfl,fun j u hj=>⟨_,0,rfl,by rw [Nat.zero_add,World.cell?_alloc_new];simpa using hj⟩⟩;have hro9:=Hd (Br hrow9 hal9 (Nat.le_refl _));have hle9:B+1<=(World.alloc wr (.cells #[.string Co,.string p] 9)).heap.size:=Nat.le_trans hB9 hal9.size;replace hal9:=Hd hal9;replace hr9:=Hd hr9;replace hrow9:=Hd hrow9;replace hblk9:=Hd hblk9;have tok9:True:=trivial;go_wp2_with (at_builtin;have _t:=tok9;refine Da rfl rfl eStrC rfl hro9.out rfl hr9.out (fun h=>by cases h) (by simp [Value.oneCell']) hn9 hle9 ?_;clear tok9 _t)
       intro v9 w9 hown9 hf9 hn99;have hf99:=Fr.trans (Ar (S:=fun k=>(Value.slice av (List.length wsj) ac).ownBlock=some k) hal9.out) hf9;obtain ⟨a99,c99,rfl⟩:=(Reads.of_owns hown9).shape;have hS9:=(hSr.out).step hB0 d09 hrow9.out hne9 (w1:=w9) (ys:=[Co,p]) ⟨by simpa using hown9,hf99,fun k hk=>(hn99 k hk).imp id (fun h=>by first | omega | exact Nat.le_trans hal9.out.size h)⟩;have d99:=hf99.cell d09 hne9;have z99:=(hblk9.out.fr hf99 hne9).frz 0 none;clear hown9 hf9 hn99 hf99 hal9 hr9 hro9 hrow9 hblk9;rw [<-hpw.out,<-hnx.out] at hS9;replace hS9:=Hd hS9;go_wp2_with fail
       go_roundw
       case rel=>exact ⟨j+1,by omega,by first | rfl | go_num,hS9.out⟩
       case measure=>simp [intOf];omega
   · obtain rfl:j=n:=by omega
     have hall:prefixes.take j=prefixes:=List.take_of_length_le (by have:prefixes.length=j:=hll.out;omega);rw [hall] at hSr hlen9;have d2:=hcell.out _ _ hSr 2 _ rfl;have d3:=hcell.out _ _ hSr 3 _ rfl;have d4:=hcell.out _ _ hSr 4 _ rfl;obtain ⟨ws7,hws7⟩:∃ws7,ws7=ws6++prefixes.flatMap preW:=⟨_,rfl⟩;have hl7:ws7.length<=6+2 * j:=by rw [hws7,List.length_append];omega
     rw [<-hws7] at hSr;clear hcut hlen9 hall;replace hSr:=Hd hSr;replace hws7:=Hd hws7;go_wp2_with fail
     have hCD:C<wr.heap.size:=hSr.out.out.blk.lt;refine Fh (n:=3) (by decide) (gf:=55) (bd:=#[.agg #[.bool optin,.bool optout,.bool noloop]]) rfl (enters_of Tryz.func55 (by kernel_rfl) rfl) (K:=fun fn W=>∃rl,WJ w0 B C cs wr.heap.size rl optin optout noloop (ws7++(if optin=true then [B7] else [])++(if optout=true then [B1] else [])++(if noloop=true then [Ct] else [])) W) ?iter ?beh
     case iter=>
       intro fn;obtain ⟨D,hD⟩:∃D,D=wr.heap.size:=⟨_,rfl⟩;rw [<-hD] at hCD ⊢;generalize hrl:rngL fn _ _ _ _ D LoopState.ready=rl;replace hD:=Hd hD;have hround:∀(x:ByteArray) (f:Bool) (ws:List ByteArray) (W:World),WJ w0 B C cs D rl optin optout noloop ws W->ws.length<=1000->YieldAt Fence.wide 1 Tryz.prog (D+1) #[.string x,.bool f] W fun e W'' => e=.returned (.bool true)/\WJ w0 B C cs D rl optin optout noloop (ws++(if f=true then [x] else [])) W'' := by
         intro x f ws W hJ hlw;have hl:=hJ.lp;rw [<-hrl] at hl;have hbg:=run_beginRound (P:=Tryz.prog) hl rfl;rw [hrl] at hbg;refine yield_round hl rfl ?_;have hJ2:=hJ.turn hCD hB0 { rl with state:=.busy }
         obtain ⟨Wp,hWp⟩:∃Wp,Wp=W.putObj (D+1) (.loop { rl with state:=.busy }):=⟨_,rfl⟩
         rw [<-hWp] at hJ2 hbg;have hend:∀(w9:World) (ws9:List ByteArray),WJ w0 B C cs D { rl with state:=.busy } optin optout noloop ws9 w9->ws9=ws++(if f=true then [x] else [])->∃v w', (Instr.endRound (D+1) none).run Tryz.prog w9=.ok v w' /\ Ending.returned v=.returned (.bool true)/\WJ w0 B C cs D rl optin optout noloop (ws++(if f=true then [x] else [])) w' := fun w9 ws9 h9 e9=>by
           refine ⟨_,_,run_endRound none h9.lp,rfl,?_⟩;have h8:=h9.turn hCD hB0 rl;rw [e9] at h8;have e8:({ ({ rl with state:=.busy }:Loop) with state:=if (none:Option Code).isNone then .ready else .done,pending:=none }:Loop)=rl:=by rw [<-hrl];rfl
           rw [e8];exact h8
         obtain ⟨vo9,d09,hrow9,hne9⟩:=hJ2.s.out.out;obtain ⟨av,ac,rfl⟩:=(Reads.of_owns hrow9).shape;have hblk9:=hJ2.s.out.blk;have hB9:B+1<=Wp.heap.size:=by have h1:=hblk9.lt;have h2:=hJ2.s.out.le;omega
         have hn9:ws.length<1000000000:=by omega
         replace hJ:=Hd hJ;replace hl:=Hd hl;replace hWp:=Hd hWp;replace hend:=Hd hend;replace hJ2:=Hd hJ2;replace hrow9:=Hd hrow9;replace hblk9:=Hd hblk9;cases f with
         | false=>
           gi_wp2
           have h:=hend.out _ _ hJ2.out (by simp);first | exact h | (simp only [Bool.false_eq_true,if_false,List.append_nil] at h;exact h)
         | true=>
           gi_wp2_with (gi_at_builtin;refine F2 rfl rfl eStrC rfl hrow9.out rfl rfl rfl hn9 hB9 ?_;intro v9 w9 hown9 hf9 hn99;obtain ⟨a99,c99,rfl⟩:=(Reads.of_owns hown9).shape;have d99:=hf9.cell d09 hne9;have z99:=(hblk9.out.fr hf9 hne9).frz 0 none;have hJ3:=hJ2.out.step hCD hB0 d09 hrow9.out hne9 hown9 hf9 hn99;replace hJ3:=Hd hJ3;clear hown9 hf9 hn99)
           have h:=hend.out _ _ hJ3.out (by simp);first | exact h | (simp only [if_true] at h;exact h)
       obtain ⟨WL,hWL⟩:∃WL,WL=(wr.alloc (.deferred (some []))).alloc (.loop rl):=⟨_,rfl⟩;rw [<-hWL];have hszL:WL.heap.size=D+2:=by rw [hWL,hD.out];simp
       have hbL:Below wr.heap.size wr WL:=by rw [hWL];exact ((Below.refl _ _).alloc (Nat.le_refl _) _).alloc (by simp) _
       obtain ⟨WE,hWE⟩:∃WE,WE=WL.alloc (.cells #[.bool optin,.bool optout,.bool noloop] 97):=⟨_,rfl⟩;have hbE:Below WL.heap.size WL WE:=by rw [hWE];exact (Below.refl _ _).alloc (Nat.le_refl _) _
       have hbrE:=hbL.trans (hbE.mono hbL.size);have hcE:∀i u,#[Value.bool optin,.bool optout,.bool noloop][i]?=some u->WE.cell? ⟨D+2,i,none⟩=some u:=fun i u hu=>by
         rw [hWE,<-hszL,World.cell?_alloc_new];exact hu
       have hlp:WL.heap[D+1]?=some (.loop rl):=by
         rw [hWL,hD.out];have:=World.alloc_heap_new (wr.alloc (.deferred (some []))) (.loop rl);rwa [World.size_alloc] at this
       have hdf:WL.heap[D]?=some (.deferred (some [])):=by
         rw [hWL,hD.out];exact (Below.heap_alloc _ _ _ (by simp)).trans (World.alloc_heap_new wr _)
       have hJ0:WJ w0 B C cs D rl optin optout noloop ws7 WE:=by
         obtain ⟨v,k1,k2,k3⟩:=hSr.out.out.out;exact ⟨hSr.out.grow hbrE,fun v' k hc hk=>by
           rw [Aa hbrE _ _ k1] at hc;cases hc
           exact .inl (by rw [hD.out];exact (An k2 k hk).2),(hbE.block _ (by omega)).trans hlp,(hbE.block _ (by omega)).trans hdf,hcE 0 _ rfl,hcE 1 _ rfl,hcE 2 _ rfl⟩
       have hl71:(ws7++(if optin=true then [B7] else [])).length<=1000:=by rw [List.length_append];split<;>simp<;>omega
       have hl72:(ws7++(if optin=true then [B7] else [])++(if optout=true then [B1] else [])).length<=1000:=by rw [List.length_append,List.length_append];split<;>split<;>simp<;>omega
       refine (all_in (D+1) optin optout noloop (fun k W=>WJ w0 B C cs D rl optin optout noloop (match k with
         | 0=>ws7
         | 1=>ws7++(if optin=true then [B7] else [])
         | 2=>ws7++(if optin=true then [B7] else [])++(if optout=true then [B1] else [])
         | _=>ws7++(if optin=true then [B7] else [])++(if optout=true then [B1] else [])++(if noloop=true then [Ct] else [])) W) WL
         (fun W' h=>hround B7 optin _ W' h (by omega)) (fun W' h=>hround B1 optout _ W' h hl71) (fun W' h=>hround Ct noloop _ W' h hl72) (fun k W' h=>by rw [hszL];exact ⟨h.x0,h.x1,h.x2⟩) (by rw [hWE] at hJ0;exact hJ0)).mono ?_
       rintro e W ⟨⟨v,rfl⟩,hJ⟩;exact ⟨v,rfl,hJ.lp,rl,hJ⟩
     case beh=>
       intro fn W hKK hl;obtain ⟨rl,hJ⟩:=hKK;clear hl;generalize rngL fn _ _ _ _ wr.heap.size LoopState.exhausted=rx;have hJ2:=hJ.turn hCD hB0 rx;obtain ⟨WF,hWF⟩:∃WF,WF=W.putObj (wr.heap.size+1) (.loop rx):=⟨_,rfl⟩;rw [<-hWF] at hJ2 ⊢;obtain ⟨vo,k1,k2,k3⟩:=hJ2.s.out.out;obtain ⟨av,ac,rfl⟩:=(Reads.of_owns k2).shape;have hK:=hJ2.df;have hlw:∀ws,ws=A4 m9->ws7++(if optin=true then [B7] else [])++(if optout=true then [B1] else [])++(if noloop=true then [Ct] else [])=A4 m9:=fun _ _=>by
         rw [hm9.out,hws7.out,hws6.out,hws5.out];rfl
       have hwE:=hlw _ rfl;rw [hwE] at k1 k2;have hbe:=Hd (hJ2.s.below);clear hlw hWF;replace hJ2:=Hd hJ2;replace hJ:=Hd hJ;replace k2:=Hd k2;replace hK:=Hd hK;replace hwE:=Hd hwE;go_wp2_with fail
       refine ⟨by simp,.inl ⟨_,_,rfl,run_takeDeferred hK.out,?_⟩⟩;have hfe:=Gi WF wr.heap.size (.deferred none);have hBw:B+1<=C:=hSr.out.out.le;have hrd:Reads (WF.putObj wr.heap.size (.deferred none)) 1 (.slice av (A4 m9).length ac) (A4 m9).length ((A4 m9).map Value.string):=Reads.own_fr (Reads.of_owns k2.out) hfe (fun b hb e=>by
         have h1:=hJ2.out.away _ b k1 hb;have e:b=wr.heap.size:=e;omega)
       have hB9:B=w0.heap.size:=hB.out;refine ⟨_,results_tmp rfl _ _ _,av,ac,rfl,hrd,?_⟩;have h2:=hbe.out.trans (hfe.below (B:=B) (by have:=hbe.out.size;omega) (fun i hi e=>by
         have e:i=wr.heap.size:=e;omega))
       rwa [hB9] at h2
end R2
end Go.Proofs.YtfaihaoajdcjbaaGreatDoor
