/- The client: an answer. -/
import Derived.Test.YtfaihaoajdcjbaaGreatDoorJ20
import Derived.Test.YtfaihaoajdcjbaaGreatDoorCliAsk
set_option linter.all false
namespace Go.Proofs.YtfaihaoajdcjbaaGreatDoor
open Go.RowKit Go.Joins
def anR (fp:List Nat) (i:Nat) (w w' : World):Prop:=match i with
 | 7=>Fr (·∈fp) w w'
 | _=>w' = w
def arR (cb:Nat) (vr:Value) (i:Nat) (w w' : World):Prop:=match i with
 | 9=>Below w.heap.size w w'
 | 10=>Fr (fun k=>vr.ownBlock=some k) w w'
 | 13=>Fr (fun k=>k=cb) w w'
 | _=>w' = w
theorem Cells.near {w:World} {cb:Nat} {p:CAt} {s:CS} (h:Cells w cb p s) (fp' : List Nat) (n:NS):Cells w cb { p with fp:=fp' } { s with near:=n }:=
 ⟨h.c0,h.c1,h.c2,h.c3,h.c4,h.c5,h.c6,h.c7,h.c8,h.c9,h.c10,h.c11,h.c12,h.c13,h.c14⟩
theorem Fy:(Tryz.prog.info? 42).map (·.size)=some 8:=by kernel_rfl
theorem eRes:Elem Tryz.prog 35 42 8 88:=C1 Tryz.underlying35 (by decide) (by decide) (by kernel_rfl)
theorem asks_from (a:Option Addr) (n c l:Nat) (h:l<=n) (W:World):(Instr.slice 66 (.slice a n c) (some (.int .i64 (l:Int))) none none).run Tryz.prog W=.ok (sliced a l n c 2) W:=by
 have hz:(sizeOf (Tryz.prog.elem 66)).run Tryz.prog W=.ok 2 W:=by kernel_rfl
 rw [run_slice_l W _ _ _ _ (by kernel_rfl) _ _ (by omega) (by omega),hz];rfl
theorem own_sliced2 {a:Option Addr} {l n c n' c' k z:Nat} (h:(sliced a l n c z).ownBlock=some k):(Value.slice a n' c').ownBlock=some k:=by
 unfold sliced at h;split at h
 · cases a<;>exact h
 · cases a with
   | none=>cases h
   | some ad=>
     have e:(ad.add (l * z)).block=k:=by simpa [Value.ownBlock] using h
     have e2:(ad.add (l * z)).block=ad.block:=by unfold Addr.add;split<;>rfl
     rw [e2] at e;rw [<-e];rfl
theorem Cu (W:World) (t:TypeId) (zs:List Value):(W.alloc (.cells zs.toArray t)).there W.heap.size 0 zs.length:=
 At (cs:=zs) (fun j y hj=>by rw [Nat.zero_add,World.cell?_alloc_new];simpa using hj) (Blk.new _ _ _) rfl
theorem Fp (W:World) (t:TypeId) (zs c:List Value) (hc:c.length=zs.length):Below W.heap.size W ((W.alloc (.cells zs.toArray t)).setCells W.heap.size 0 c)/\((W.alloc (.cells zs.toArray t)).setCells W.heap.size 0 c).rangeAt W.heap.size 0 c/\Blk ((W.alloc (.cells zs.toArray t)).setCells W.heap.size 0 c) W.heap.size:=by
 have hb:Below W.heap.size W (W.alloc (.cells zs.toArray t)):=(Below.refl _ _).alloc (Nat.le_refl _) _;refine ⟨hb.trans ((Fr.setCells (S:=fun k=>k=W.heap.size) (fun _=>rfl) _ _ _ (Fr.refl _ _)).below hb.size (fun i hi e=>by omega)),World.rangeAt_setCells_same _ _ _ _ (by rw [hc];exact Cu W t zs),Blk.setCells _ _ _ (Blk.new _ _ _)⟩
theorem one2 (x y:Int):(#[Value.int .i64 x,.int .i64 y]:Array Value).all (·.oneCell')=true:=by simp [Value.oneCell']
namespace R2
set_option maxRecDepth 100000 in
set_option maxHeartbeats 6400000 in
theorem answer_any {ow:Nat->Nat} {w0:World} {cb cap:Nat} {ad:Option Addr} {s0:CS} {x:V} (h:Cli ow w0 cb s0) (hx:RV (offO ow w0) (Aj x.kind x.text x.int x.real x.flag ad x.list.length cap) x) (hcx:x.count<=100000000) (hr:s0.results.length<=1000000) :
   Calls Tryz.prog 36 #[P0 cb,.agg #[Value.int .i64 x.kind,.string x.text,.int .i64 x.int,.float .f64 x.real,.bool x.flag,.slice ad x.list.length cap]] w0 fun e w' => e=.returned (.tuple #[])/\∃ow', Cli ow' w' cb (s0.answer x)/\CW ow w0 ow' w' := by
 obtain ⟨p,rs,hC,hP,hq⟩:=h.out;obtain ⟨W,hW⟩:∃W,W=w0.alloc (.cells #[Value.int .i64 x.kind,.string x.text,.int .i64 x.int,.float .f64 x.real,.bool x.flag,.slice ad x.list.length cap] 40):=⟨_,rfl⟩;obtain ⟨B,hB⟩:∃B,B=w0.heap.size:=⟨_,rfl⟩;have hb:Below w0.heap.size w0 W:=by rw [hW];exact (Below.refl _ _).alloc (Nat.le_refl _) _
 have hbox:W.rangeAt B 0 [Value.int .i64 x.kind,.string x.text,.int .i64 x.int,.float .f64 x.real,.bool x.flag,.slice ad x.list.length cap]:=by
   rw [hW,hB];intro j u hj;rw [Nat.zero_add,World.cell?_alloc_new];simpa using hj
 have hbl:B<W.heap.size:=by rw [hW,hB];simp
 have hz:ow B=0:=hP.zero B (by rw [hB];exact Nat.le_refl _);obtain ⟨hP0,hw0⟩:=hP.grow hb;have hC0:=hC.below hb;have hxW:=hx.mono (E3 hw0);clear h hC hP hx;obtain ⟨aa,na,ea,hna⟩:=hP0.asked.shape;have c11:=hC0.c11;rw [ea] at c11;have hkb:W.cell? ⟨B,0,none⟩=some (.int .i64 x.kind):=by have:=hbox 0 _ rfl;rwa [Nat.zero_add] at this
 replace hP0:=Hd hP0;replace hC0:=Hd hC0;replace hbox:=Hd hbox;replace hw0:=Hd hw0;replace hxW:=Hd hxW;replace hW:=Hd hW;replace hB:=Hd hB;replace hz:=Hd hz;replace ea:=Hd ea;by_cases hl0:s0.asked=[]
 · have hlen:s0.asked.length=0:=by rw [hl0];rfl
   rw [hlen] at c11;have hfn:s0.answer x=s0.close:=by unfold CS.answer;rw [hl0]
   rw [hfn]
   go_enter Tryz.func36,Tryz.ntmps36
   go_upto_region 1 with fail
   rw [<-hW.out];go_wp2_with fail
   refine (Em hC0.out hP0.out).mono ?_;rintro e w1 ⟨o1,rfl,hfin,hw1⟩;have hw:=Hd (hw0.out.trans hw1);replace hfin:=Hd hfin;clear hw1;go_wp2_with fail
   exact bodyPost_ret (results_none rfl _ _ _) rfl ⟨rfl,o1,hfin.out,hw.out⟩
 · obtain ⟨tk,ti,l,hl⟩:∃tk ti l,s0.asked=(tk,ti) :: l:=by
     cases hh:s0.asked with
     | nil=>exact absurd hh hl0
     | cons q l=>exact ⟨q.1,q.2,l,rfl⟩
   have hlen:s0.asked.length=l.length+1:=by rw [hl];rfl
   have hAk:=hP0.out.asked;rw [hlen,hl] at hAk;obtain ⟨ab,ao,ac,ev,hablt,hcell⟩:=hAk.cells (by omega);rw [hlen] at c11 hna;have ea2:=ea.out;rw [hlen] at ea2;rw [ea2] at ev hAk;cases ev
   have hrng:W.rangeAt ab ao [.int .i64 tk,.int .i64 ti]:=fun j u hj=>hcell j u (by
     rcases j with _ | _ | j
     · exact hj
     · exact hj
     · simp at hj)
   obtain ⟨_,hdrop⟩:=hAk.drop (u:=1) (by omega);have hla:l.length+1 - 1=l.length:=by omega
   have hda:(Bd ((tk,ti) :: l)).drop (1 * 2)=Bd l:=rfl;rw [hla,hda] at hdrop;obtain ⟨a1,n1,c1,e1⟩:∃a1 n1 c1,sliced (some ⟨ab,ao,none⟩) 1 (l.length+1) na 2=.slice a1 n1 c1:=⟨_,_,_,rfl⟩;have hown1:∀k,(Value.slice a1 n1 c1).ownBlock=some k->p.va.ownBlock=some k:=fun k hk=>by rw [ea2];rw [<-e1] at hk;exact own_sliced2 hk
   have hasks:=fun W9=>asks_from (some ⟨ab,ao,none⟩) (l.length+1) na 1 (by omega) W9;have hli:(((1:Nat):Int))=1:=rfl;rw [e1] at hdrop;have hasks2:∀W9,(Instr.slice 66 (.slice (some ⟨ab,ao,none⟩) (l.length+1) na) (some (.int .i64 1)) none none).run Tryz.prog W9=.ok (.slice a1 n1 c1) W9:=fun W9=>(hasks W9).trans (by rw [e1]);clear hasks;obtain ⟨W1,hW1⟩:∃W1,W1=(W.alloc (.cells #[.int .i64 0,.int .i64 0] 71)).setCells W.heap.size 0 [.int .i64 tk,.int .i64 ti]:=⟨_,rfl⟩;obtain ⟨hb1,hm,_⟩:Below W.heap.size W W1/\W1.rangeAt W.heap.size 0 [.int .i64 tk,.int .i64 ti]/\Blk W1 W.heap.size:=by rw [hW1];exact Fp W 71 [.int .i64 0,.int .i64 0] [.int .i64 tk,.int .i64 ti] rfl
   have hth:(W.alloc (.cells #[.int .i64 0,.int .i64 0] 71)).there W.heap.size 0 2:=Cu W 71 [.int .i64 0,.int .i64 0];obtain ⟨M,hM⟩:∃M,M=W.heap.size:=⟨_,rfl⟩;rw [<-hM] at hm hW1 hth;obtain ⟨hP1,hw1⟩:=hP0.out.grow hb1;have hC1:=hC0.out.below hb1;have hzM:ow M=0:=hP0.out.zero M (by rw [hM];exact Nat.le_refl _);obtain ⟨o2,hC2,hP2,hw2⟩:=cli_asked hC1 hP1 (l:=l) (v1:=.slice a1 n1 c1) (w1:=W1) ⟨hdrop.below hb1,Fr.refl _ _,fun k hk=>.inl (hown1 k hk)⟩;have d11:=hC1.c11;rw [ea2] at d11;have z11:=hP1.blk.frz 11 none;obtain ⟨W2,hW2⟩:∃W2,W2=W1.setCell ⟨cb,11,none⟩ (.slice a1 n1 c1):=⟨_,rfl⟩;rw [<-hW2] at hC2 hP2 hw2;obtain ⟨p2,hp2⟩:∃p2,p2=({ p with va:=.slice a1 n1 c1 }:CAt):=⟨_,rfl⟩
   obtain ⟨s2,hs2⟩:∃s2,s2=({ s0 with asked:=l }:CS):=⟨_,rfl⟩
   rw [<-hp2,<-hs2] at hC2 hP2;have hq2:p2.qm=0/\p2.qs=0:=by rw [hp2];exact hq
   have hr2:s2.results.length<=1000000:=by rw [hs2];exact hr
   have hn2:s2.near=s0.near:=by rw [hs2]
   have hre2:s2.results=s0.results:=by rw [hs2]
   have hnM:¬(1<=ow M/\ow M<=8):=by rw [hzM];omega
   have hnB:¬(1<=ow B/\ow B<=8):=by rw [hz.out];omega
   have m0:W2.cell? ⟨M,0,none⟩=some (.int .i64 tk):=hw2.fr.cell (by have:=hm 0 _ rfl;rwa [Nat.zero_add] at this) hnM;have m1:W2.cell? ⟨M,1,none⟩=some (.int .i64 ti):=hw2.fr.cell (by have:=hm 1 _ rfl;rwa [Nat.zero_add] at this) hnM;have hbox2:W2.rangeAt B 0 [Value.int .i64 x.kind,.string x.text,.int .i64 x.int,.float .f64 x.real,.bool x.flag,.slice ad x.list.length cap]:=fun j u hj=>hw2.fr.cell (Aa hb1 _ _ (hbox.out j u hj)) hnB;have k0:W2.cell? ⟨B,0,none⟩=some (.int .i64 x.kind):=by have:=hbox2 0 _ rfl;rwa [Nat.zero_add] at this
   have hx2:RV W2.cell? (Aj x.kind x.text x.int x.real x.flag ad x.list.length cap) x:=by
     exact ((hxW.out.mono (E3 hw1)).mono (E3 hw2)).mono offO_all
   have hww:=Hd ((hw0.out.trans hw1).trans hw2);have hoM:o2 M=0:=by rw [hw2.same M (World.block_lt_of_cell? _ _ (hm 0 _ rfl)),hzM]
   have hoB:o2 B=0:=by rw [hw2.same B (Nat.lt_of_lt_of_le hbl hb1.size),hz.out]
   clear hw1 hw2 hC1 hP1 hb1 hm hdrop hown1 hcell hAk hkb hnM hnB hzM hl0 hda hla hC0 hP0 hw0;replace hp2:=Hd hp2;replace hs2:=Hd hs2;replace hn2:=Hd hn2;replace hre2:=Hd hre2;replace hC2:=Hd hC2;replace hP2:=Hd hP2;replace hW2:=Hd hW2;replace hW1:=Hd hW1;replace hM:=Hd hM;replace hth:=Hd hth;replace hrng:=Hd hrng;replace hbox2:=Hd hbox2;replace hx2:=Hd hx2;replace hl:=Hd hl;replace hlen:=Hd hlen;replace e1:=Hd e1;replace ea:=Hd ea;replace ea2:=Hd ea2;have tok1:True:=trivial;have tok2:True:=trivial;have hlz:(((l.length+1:Nat):Int) == 0)=false:=by rw [beq_eq_false_iff_ne];omega
   go_enter Tryz.func36,Tryz.ntmps36
   go_upto_region 1 with fail
   rw [<-hW.out,<-hB.out]
   go_upto_region 4 with (first
     | (have _t:=tok1;refine wpList_load_mid rfl 71 _ rfl ab ao rfl _ _ hrng.out Tryz.underlying71 rfl Dk ?_;clear tok1 _t)
     | (have _t:=tok2;refine wpList_store_mid rfl 71 _ _ rfl W.heap.size 0 _ rfl rfl (by rw [<-hM.out];exact hth.out) Dk (one2 _ _) ?_;clear tok2 _t))
   rw [<-hM.out,<-hW1.out];go_upto_region 5 with fail
   rw [<-hW2.out];by_cases h1:tk=-1
   · subst h1
     by_cases h2:x.kind=2
     · have hfn:s0.answer x=s2.close:=by rw [hs2.out];unfold CS.answer;rw [hl.out];simp [h2];rfl
       have h2b:(x.kind == 2)=true:=by rw [h2];rfl
       replace h2:=Hd h2;replace hfn:=Hd hfn;go_wp2_with fail
       refine (Em hC2.out hP2.out).mono ?_;rintro e w1 ⟨o3,rfl,hfin,hw3⟩;have hw:=hww.out.trans hw3;rw [<-hfn.out] at hfin;replace hfin:=Hd hfin;replace hw:=Hd hw;clear hw3;go_wp2_with fail
       go_end0
       first | exact ⟨rfl,o3,hfin.out,hw.out⟩ | exact ⟨o3,rfl,hfin.out,hw.out⟩
     · have hfn:s0.answer x={ s0 with asked:=l }:=by unfold CS.answer;rw [hl.out];simp [h2]
       have h2b:(x.kind == 2)=false:=by rw [beq_eq_false_iff_ne];exact h2
       replace h2:=Hd h2;have hfin:Cli o2 W2 cb (s0.answer x):=by rw [hfn,<-hs2.out];exact ⟨_,_,hC2.out,hP2.out,hq2⟩
       replace hfin:=Hd hfin;clear hfn;go_wp2_with fail
       go_end0
       first | exact ⟨rfl,o2,hfin.out,hww.out⟩ | exact ⟨o2,rfl,hfin.out,hww.out⟩
   · have h1b:(tk == -1)=false:=by rw [beq_eq_false_iff_ne];exact h1
     replace h1:=Hd h1;by_cases h3:0<tk
     · by_cases h4:0<ti/\x.kind≠2
       · have h2b:(x.kind == 2)=false:=by rw [beq_eq_false_iff_ne];exact h4.2
         have h5:=h4.1;have hfn:s0.answer x={ s0 with asked:=l,near:=s0.near.fill ti x,results:=s0.results++[(tk,x,false)] }:=by unfold CS.answer;rw [hl.out];simp [h1.out,h3,h4]
         replace h4:=Hd h4;replace hfn:=Hd hfn;obtain ⟨U,hU⟩:∃U,U=W2:=⟨_,rfl⟩;obtain ⟨nb,hnb⟩:∃nb,nb=p2.nb:=⟨_,rfl⟩;obtain ⟨fp,hfp⟩:∃fp,fp=p2.fp:=⟨_,rfl⟩;obtain ⟨av,hav⟩:∃av,av=p2.av cb:=⟨_,rfl⟩;obtain ⟨ns,hns⟩:∃ns,ns=s2.near:=⟨_,rfl⟩;have c0:=hC2.out.c0;have hnear:=hP2.out.near;have hbox:=hbox2.out;have hxU:=hx2.out;rw [<-hU] at c0 hnear m1 hbox hxU;rw [<-hnb] at c0;rw [<-hnb,<-hfp,<-hav,<-hns] at hnear;have hfill:∀wx,Below U.heap.size U wx->Calls Tryz.prog 59 #[P0 nb,.int .i64 ti,.agg #[Value.int .i64 x.kind,.string x.text,.int .i64 x.int,.float .f64 x.real,.bool x.flag,.slice ad x.list.length cap]] wx fun e w' => ∃v,e=.returned v/\Fr (·∈fp) U w' /\ Fr (·∈fp) wx w' /\ ∃fp', Av.Near w' nb fp' av (ns.fill ti x)/\Went U fp w' fp' := fun wx hI=>
           (Av.near_fill (hnear.below hI) ti (hxU.mono (Aa hI)) hcx).mono fun e w' ⟨fp', he,hN,hw⟩=>⟨_,he,Fr.trans (Ar hI) hw.1,hw.1,fp', hN,Fr.trans (Ar hI) hw.1,fun b hb=>(hw.2 b hb).imp id (fun h=>Nat.le_trans hI.size h)⟩
         replace hbox:=Hd hbox;replace hfill:=Hd hfill;replace hnear:=Hd hnear;replace hxU:=Hd hxU;replace hnb:=Hd hnb;replace hfp:=Hd hfp;replace hav:=Hd hav;replace hns:=Hd hns;rw [<-hU];replace hU:=Hd hU;have k0U:U.cell? ⟨B,0,none⟩=some (.int .i64 x.kind):=by rw [hU.out];exact k0
         have m0U:U.cell? ⟨M,0,none⟩=some (.int .i64 tk):=by rw [hU.out];exact m0
         go_wp2_with fail
         have hbox:=hbox.out;have hfill:=hfill.out;refine wp_region_rely (l:=[_,_,_,_,_,_,_,_]) (Fr (·∈fp) U) (Below U.heap.size U) (anR fp) (fun kG_=>([fun v _=>v=.pointer (some ⟨cb,0,none⟩),fun v _=>v=.pointer (some ⟨cb,0,none⟩),fun v _=>v=.pointer (some ⟨cb,0,none⟩),fun v _=>v=.pointer (some ⟨nb,0,none⟩),fun v _=>v=.pointer (some ⟨M,1,none⟩),fun v _=>v=.int .i64 ti,fun v _=>v=.agg #[.int .i64 x.kind,.string x.text,.int .i64 x.int,.float .f64 x.real,.bool x.flag,.slice ad x.list.length cap],fun v w=>∃fp', Av.Near w nb fp' av (ns.fill ti x)/\Went U fp w fp']:List (Value->World->Prop)).getD kG_ (fun _ _=>True)) (eats []) (isIn [7]) (by kernel_rfl) (by kernel_rfl) (by kernel_rfl) ((Fr.refl _ _).drew) ((Below.refl _ _).drew) ?_ ?_ ?_ ?_
         · intro i kG_ u w w' hne hE hg hr
           rcases kG_ with _ | _ | _ | _ | _ | _ | _ | _ | kG_
           · exact hg
           · exact hg
           · exact hg
           · exact hg
           · exact hg
           · exact hg
           · exact hg
           · replace hg:(fun (v:Value) (w:World)=>∃fp', Av.Near w nb fp' av (ns.fill ti x)/\Went U fp w fp') u w:=hg
             show (fun (v:Value) (w:World)=>∃fp', Av.Near w nb fp' av (ns.fill ti x)/\Went U fp w fp') u w';dsimp only at hg ⊢;replace hE:exB _ _ i 7=false:=hE;replace hne:7≠i:=hne;unfold anR at hr;split at hr
             all_goals first
               | exact absurd rfl hne
               | exact absurd (hE.symm.trans (by decide +kernel:exB _ _ _ _=true)) (by decide)
               | (subst hr;exact hg)
               | (fail)
           · trivial
         · intro i w w' hF hI hr
           unfold anR at hr;split at hr
           · exact absurd hF (by decide)
           · subst hr;exact hI
         · refine ⟨?_,?_,?_,?_,?_,?_,?_,?_,trivial⟩
           · refine VC.plain rfl fun a wx hf=>?_
             have s0:=hf.old 0 (by first | rfl | kernel_rfl);have q0:=Ac s0;exact gives_value (by simp [go_sem,q0]) ⟨hf.c,rfl,rfl⟩
           · refine VC.plain rfl fun a wx hf=>?_
             obtain ⟨v51,g51,s51⟩:=hf.got 0 (by kernel_rfl) (by intro j hj;simp [eats] at hj) rfl rfl;replace s51:=s51.trans (show v51=.pointer (some ⟨cb,0,none⟩) from g51);clear g51;have q51:=Ac s51;exact gives_value (by simp [go_sem,q51]) ⟨hf.c,rfl,rfl⟩
           · refine VC.plain rfl fun a wx hf=>?_
             obtain ⟨v52,g52,s52⟩:=hf.got 1 (by kernel_rfl) (by intro j hj;simp [eats] at hj) rfl rfl;replace s52:=s52.trans (show v52=.pointer (some ⟨cb,0,none⟩) from g52);clear g52;have q52:=Ac s52;exact gives_value (by simp [go_sem,q52]) ⟨hf.c,rfl,rfl⟩
           · refine VC.plain rfl fun a wx hf=>?_
             obtain ⟨v53,g53,s53⟩:=hf.got 2 (by kernel_rfl) (by intro j hj;simp [eats] at hj) rfl rfl;replace s53:=s53.trans (show v53=.pointer (some ⟨cb,0,none⟩) from g53);clear g53;have q53:=Ac s53;have hI:=hf.start (by kernel_rfl);have hc:=Aa hI _ _ c0;exact gives_value (by simp [go_sem,q53,hc]) ⟨hf.c,rfl,rfl⟩
           · refine VC.plain rfl fun a wx hf=>?_
             have s4:=hf.old 4 (by first | rfl | kernel_rfl);have q4:=Ac s4;exact gives_value (by simp [go_sem,q4]) ⟨hf.c,rfl,rfl⟩
           · refine VC.plain rfl fun a wx hf=>?_
             obtain ⟨v55,g55,s55⟩:=hf.got 4 (by kernel_rfl) (by intro j hj;simp [eats] at hj) rfl rfl;replace s55:=s55.trans (show v55=.pointer (some ⟨M,1,none⟩) from g55);clear g55;have q55:=Ac s55;have hI:=hf.start (by kernel_rfl);have hc:=Aa hI _ _ m1;exact gives_value (by simp [go_sem,q55,hc]) ⟨hf.c,rfl,rfl⟩
           · refine VC.plain rfl fun a wx hf=>?_
             have s3:=hf.old 3 (by first | rfl | kernel_rfl);have q3:=Ac s3;have hI:=hf.start (by kernel_rfl);exact A0 rfl s3 (fun j y hj=>Aa hI _ _ (hbox j y hj)) Tryz.underlying40 rfl Ai ⟨hf.c,rfl,rfl⟩
           · refine VC.plain rfl fun a wx hf=>?_
             obtain ⟨v54,g54,s54⟩:=hf.got 3 (by kernel_rfl) (by intro j hj;simp [eats] at hj) rfl rfl;replace s54:=s54.trans (show v54=.pointer (some ⟨nb,0,none⟩) from g54);clear g54;have q54:=Ac s54;obtain ⟨v56,g56,s56⟩:=hf.got 5 (by kernel_rfl) (by intro j hj;simp [eats] at hj) rfl rfl;replace s56:=s56.trans (show v56=.int .i64 ti from g56);clear g56;have q56:=Ac s56;obtain ⟨v57,g57,s57⟩:=hf.got 6 (by kernel_rfl) (by intro j hj;simp [eats] at hj) rfl rfl;replace s57:=s57.trans (show v57=.agg #[.int .i64 x.kind,.string x.text,.int .i64 x.int,.float .f64 x.real,.bool x.flag,.slice ad x.list.length cap] from g57);clear g57;have q57:=Ac s57;have hI:=hf.start (by kernel_rfl)
             exact Ds (f:=59) (args:=#[.pointer (some ⟨nb,0,none⟩),.int .i64 ti,.agg #[.int .i64 x.kind,.string x.text,.int .i64 x.int,.float .f64 x.real,.bool x.flag,.slice ad x.list.length cap]]) (by simp [go_sem,q54,q56,q57]) (hfill wx hI)
         · intro vs w8 _ hG
           obtain ⟨fp', hN3,hW3⟩:=hG 7 (by decide) (by decide);clear hG hfill;have hP9:=hP2.out;have hC9:=hC2.out;have hw9:=hww.out;rw [<-hU.out] at hP9 hC9 hw9;rw [hnb.out,hav.out] at hN3;rw [hfp.out] at hW3;obtain ⟨hPU,hw3⟩:=hP9.setNear hN3 hW3;have hCU:=(hC9.fr hW3.1 (fun e=>by have h1:=hP9.ofp cb e;rw [hP9.ocb] at h1;exact absurd h1 (by decide))).near fp' (ns.fill ti x);have m0:w8.cell? ⟨M,0,none⟩=some (.int .i64 tk):=hw3.fr.cell m0U (fun e=>by rw [hoM] at e;omega);have hbox:w8.rangeAt B 0 [Value.int .i64 x.kind,.string x.text,.int .i64 x.int,.float .f64 x.real,.bool x.flag,.slice ad x.list.length cap]:=fun j u hj=>hw3.fr.cell (hbox j u hj) (fun e=>by rw [hoB] at e;omega);have hwU:=hw9.trans hw3;obtain ⟨pu,hpu⟩:∃pu,pu=({ p2 with fp:=fp' }:CAt):=⟨_,rfl⟩
           obtain ⟨s,hs9⟩:∃s,s=({ s2 with near:=ns.fill ti x }:CS):=⟨_,rfl⟩
           obtain ⟨O3,hO3⟩:∃O3,O3=owN o2 U.heap.size fp' 1:=⟨_,rfl⟩;rw [<-hpu,<-hs9,<-hO3] at hPU;rw [<-hpu,<-hs9] at hCU;rw [<-hO3] at hwU;have hqu:pu.qm=0/\pu.qs=0:=by rw [hpu];exact hq2
           have hfn:s0.answer x={ s with results:=s.results++[(tk,x,false)] }:=by rw [hfn.out,hs9,hns.out,hs2.out]
           have hrs:s.results.length<=1000000:=by rw [hs9];exact hr2
           clear hN3 hW3 hw3 hP9 hC9 hw9 hpu hs9 hO3 hC2 hP2 hww hx2 m1 m0U k0U k0 c0 hnear hxU hbox2;clear hns hav hfp hnb;replace hwU:=Hd hwU;clear hU;obtain ⟨U,hU⟩:∃U,U=w8:=⟨_,rfl⟩;rw [<-hU] at hPU hCU m0 hbox hwU ⊢;clear hU;simp only [Al,Act.put,List.setIfInBounds_toArray,List.set_cons_zero,List.set_cons_succ];obtain ⟨ar,cr,er,_⟩:=hPU.results.shape;have c12:=hCU.c12;have hbuf:=hPU.results;have hcb:¬pu.vr.ownBlock=some cb:=fun e=>by have h1:=hPU.ovr cb e;rw [hPU.ocb] at h1;exact absurd h1 (by decide)
           have hblk:=hPU.blk;have hrl:=hPU.rlen;rw [er] at c12 hbuf hcb;have hn9:s.results.length+1<=1000000000:=by omega
           replace hCU:=Hd hCU;replace hPU:=Hd hPU;replace hbox:=Hd hbox;replace hbuf:=Hd hbuf;replace hblk:=Hd hblk;replace er:=Hd er;replace hfn:=Hd hfn;go_wp2_with fail
           have hbox:=hbox.out;have hbuf:=hbuf.out;have hblk:=hblk.out
           refine wp_region_rely (l:=[_,_,_,_,_,_,_,_,_,_,_,_,_,_]) (Fr (fun k=>k=cb\/(Value.slice ar s.results.length cr).ownBlock=some k) U) (Below U.heap.size U) (arR cb (Value.slice ar s.results.length cr)) (fun kG_=>([fun v _=>v=.pointer (some ⟨cb,0,none⟩),fun v _=>v=.pointer (some ⟨cb,0,none⟩),fun v _=>v=.pointer (some ⟨cb,0,none⟩),fun v _=>v=.pointer (some ⟨cb,12,none⟩),fun v _=>v=.slice ar s.results.length cr,fun v _=>v=.pointer (some ⟨M,0,none⟩),fun v _=>v=.int .i64 tk,fun v _=>v=.agg #[.int .i64 x.kind,.string x.text,.int .i64 x.int,.float .f64 x.real,.bool x.flag,.slice ad x.list.length cap],fun v _=>v=.agg #[.int .i64 tk,.int .i64 x.kind,.string x.text,.int .i64 x.int,.float .f64 x.real,.bool x.flag,.slice ad x.list.length cap,.bool false],fun v w=>∃b,v=.slice (some ⟨b,0,none⟩) 1 1/\w.rangeAt b 0 [.int .i64 tk,.int .i64 x.kind,.string x.text,.int .i64 x.int,.float .f64 x.real,.bool x.flag,.slice ad x.list.length cap,.bool false]/\Below U.heap.size U w,fun v w=>AkK 8 U (.slice ar s.results.length cr) (s.results.length+1) (resL s.results rs++[.int .i64 tk,.int .i64 x.kind,.string x.text,.int .i64 x.int,.float .f64 x.real,.bool x.flag,.slice ad x.list.length cap,.bool false]) v w,fun v _=>v=.pointer (some ⟨cb,0,none⟩),fun v _=>v=.pointer (some ⟨cb,12,none⟩),fun v w=>∃(v1:Value) (w1:World),w=w1.setCell ⟨cb,12,none⟩ v1/\AkK 8 U (.slice ar s.results.length cr) (s.results.length+1) (resL s.results rs++[.int .i64 tk,.int .i64 x.kind,.string x.text,.int .i64 x.int,.float .f64 x.real,.bool x.flag,.slice ad x.list.length cap,.bool false]) v1 w1]:List (Value->World->Prop)).getD kG_ (fun _ _=>True)) (eats [(10,9),(13,10)]) (isIn [10,13]) (by kernel_rfl) (by kernel_rfl) (by kernel_rfl) ((Fr.refl _ _).drew) ((Below.refl _ _).drew) ?_ ?_ ?_ ?_
           · intro i kG_ u w w' hne hE hg hr
             rcases kG_ with _ | _ | _ | _ | _ | _ | _ | _ | _ | _ | _ | _ | _ | _ | kG_
             · exact hg
             · exact hg
             · exact hg
             · exact hg
             · exact hg
             · exact hg
             · exact hg
             · exact hg
             · exact hg
             · replace hg:(fun (v:Value) (w:World)=>∃b,v=.slice (some ⟨b,0,none⟩) 1 1/\w.rangeAt b 0 [.int .i64 tk,.int .i64 x.kind,.string x.text,.int .i64 x.int,.float .f64 x.real,.bool x.flag,.slice ad x.list.length cap,.bool false]/\Below U.heap.size U w) u w:=hg
               show (fun (v:Value) (w:World)=>∃b,v=.slice (some ⟨b,0,none⟩) 1 1/\w.rangeAt b 0 [.int .i64 tk,.int .i64 x.kind,.string x.text,.int .i64 x.int,.float .f64 x.real,.bool x.flag,.slice ad x.list.length cap,.bool false]/\Below U.heap.size U w) u w';dsimp only at hg ⊢;replace hE:exB _ _ i 9=false:=hE;replace hne:9≠i:=hne;unfold arR at hr;split at hr
               all_goals first
                 | exact absurd rfl hne
                 | exact absurd (hE.symm.trans (by decide +kernel:exB _ _ _ _=true)) (by decide)
                 | (subst hr;exact hg)
                 | (fail)
             · replace hg:(fun (v:Value) (w:World)=>AkK 8 U (.slice ar s.results.length cr) (s.results.length+1) (resL s.results rs++[.int .i64 tk,.int .i64 x.kind,.string x.text,.int .i64 x.int,.float .f64 x.real,.bool x.flag,.slice ad x.list.length cap,.bool false]) v w) u w:=hg
               show (fun (v:Value) (w:World)=>AkK 8 U (.slice ar s.results.length cr) (s.results.length+1) (resL s.results rs++[.int .i64 tk,.int .i64 x.kind,.string x.text,.int .i64 x.int,.float .f64 x.real,.bool x.flag,.slice ad x.list.length cap,.bool false]) v w) u w';dsimp only at hg ⊢;replace hE:exB _ _ i 10=false:=hE;replace hne:10≠i:=hne;unfold arR at hr;split at hr
               all_goals first
                 | exact absurd rfl hne
                 | exact absurd (hE.symm.trans (by decide +kernel:exB _ _ _ _=true)) (by decide)
                 | (subst hr;exact hg)
                 | (fail)
             · exact hg
             · exact hg
             · replace hg:(fun (v:Value) (w:World)=>∃(v1:Value) (w1:World),w=w1.setCell ⟨cb,12,none⟩ v1/\AkK 8 U (.slice ar s.results.length cr) (s.results.length+1) (resL s.results rs++[.int .i64 tk,.int .i64 x.kind,.string x.text,.int .i64 x.int,.float .f64 x.real,.bool x.flag,.slice ad x.list.length cap,.bool false]) v1 w1) u w:=hg
               show (fun (v:Value) (w:World)=>∃(v1:Value) (w1:World),w=w1.setCell ⟨cb,12,none⟩ v1/\AkK 8 U (.slice ar s.results.length cr) (s.results.length+1) (resL s.results rs++[.int .i64 tk,.int .i64 x.kind,.string x.text,.int .i64 x.int,.float .f64 x.real,.bool x.flag,.slice ad x.list.length cap,.bool false]) v1 w1) u w';dsimp only at hg ⊢;replace hE:exB _ _ i 13=false:=hE;replace hne:13≠i:=hne;unfold arR at hr;split at hr
               all_goals first
                 | exact absurd rfl hne
                 | exact absurd (hE.symm.trans (by decide +kernel:exB _ _ _ _=true)) (by decide)
                 | (subst hr;exact hg)
                 | (fail)
             · trivial
           · intro i w w' hF hI hr
             unfold arR at hr;split at hr
             · exact hI.trans (hr.mono hI.size)
             · exact absurd hF (by decide)
             · exact absurd hF (by decide)
             · subst hr;exact hI
           · refine ⟨?_,?_,?_,?_,?_,?_,?_,?_,?_,?_,?_,?_,?_,?_,trivial⟩
             · refine VC.plain rfl fun a wx hf=>?_
               have s0:=hf.old 0 (by first | rfl | kernel_rfl);have q0:=Ac s0;exact gives_value (by simp [go_sem,q0]) ⟨hf.c,rfl,rfl⟩
             · refine VC.plain rfl fun a wx hf=>?_
               have s0:=hf.old 0 (by first | rfl | kernel_rfl);have q0:=Ac s0;exact gives_value (by simp [go_sem,q0]) ⟨hf.c,rfl,rfl⟩
             · refine VC.plain rfl fun a wx hf=>?_
               obtain ⟨v60,g60,s60⟩:=hf.got 1 (by kernel_rfl) (by intro j hj;simp [eats] at hj) rfl rfl;replace s60:=s60.trans (show v60=.pointer (some ⟨cb,0,none⟩) from g60);clear g60;have q60:=Ac s60;exact gives_value (by simp [go_sem,q60]) ⟨hf.c,rfl,rfl⟩
             · refine VC.plain rfl fun a wx hf=>?_
               obtain ⟨v61,g61,s61⟩:=hf.got 2 (by kernel_rfl) (by intro j hj;simp [eats] at hj) rfl rfl;replace s61:=s61.trans (show v61=.pointer (some ⟨cb,0,none⟩) from g61);clear g61;have q61:=Ac s61;exact gives_value (by simp [go_sem,q61]) ⟨hf.c,rfl,rfl⟩
             · refine VC.plain rfl fun a wx hf=>?_
               obtain ⟨v62,g62,s62⟩:=hf.got 3 (by kernel_rfl) (by intro j hj;simp [eats] at hj) rfl rfl;replace s62:=s62.trans (show v62=.pointer (some ⟨cb,12,none⟩) from g62);clear g62;have q62:=Ac s62;have hI:=hf.start (by kernel_rfl);have hc:=Aa hI _ _ c12;exact gives_value (by simp [go_sem,q62,hc]) ⟨hf.c,rfl,rfl⟩
             · refine VC.plain rfl fun a wx hf=>?_
               have s4:=hf.old 4 (by first | rfl | kernel_rfl);have q4:=Ac s4;exact gives_value (by simp [go_sem,q4]) ⟨hf.c,rfl,rfl⟩
             · refine VC.plain rfl fun a wx hf=>?_
               obtain ⟨v64,g64,s64⟩:=hf.got 5 (by kernel_rfl) (by intro j hj;simp [eats] at hj) rfl rfl;replace s64:=s64.trans (show v64=.pointer (some ⟨M,0,none⟩) from g64);clear g64;have q64:=Ac s64;have hI:=hf.start (by kernel_rfl);have hc:=Aa hI _ _ m0;exact gives_value (by simp [go_sem,q64,hc]) ⟨hf.c,rfl,rfl⟩
             · refine VC.plain rfl fun a wx hf=>?_
               have s3:=hf.old 3 (by first | rfl | kernel_rfl);have q3:=Ac s3;have hI:=hf.start (by kernel_rfl);exact A0 rfl s3 (fun j y hj=>Aa hI _ _ (hbox j y hj)) Tryz.underlying40 rfl Ai ⟨hf.c,rfl,rfl⟩
             · refine VC.plain rfl fun a wx hf=>?_
               obtain ⟨v65,g65,s65⟩:=hf.got 6 (by kernel_rfl) (by intro j hj;simp [eats] at hj) rfl rfl;replace s65:=s65.trans (show v65=.int .i64 tk from g65);clear g65;have q65:=Ac s65;obtain ⟨v66,g66,s66⟩:=hf.got 7 (by kernel_rfl) (by intro j hj;simp [eats] at hj) rfl rfl;replace s66:=s66.trans (show v66=.agg #[.int .i64 x.kind,.string x.text,.int .i64 x.int,.float .f64 x.real,.bool x.flag,.slice ad x.list.length cap] from g66);clear g66;have q66:=Ac s66;exact gives_value (by simp [go_sem,q65,q66]) ⟨hf.c,rfl,rfl⟩
             · refine VC.plain rfl fun a wx hf=>?_
               obtain ⟨v67,g67,s67⟩:=hf.got 8 (by kernel_rfl) (by intro j hj;simp [eats] at hj) rfl rfl;replace s67:=s67.trans (show v67=.agg #[.int .i64 tk,.int .i64 x.kind,.string x.text,.int .i64 x.int,.float .f64 x.real,.bool x.flag,.slice ad x.list.length cap,.bool false] from g67);clear g67;have q67:=Ac s67;have hI:=hf.start (by kernel_rfl);have hal:=(Below.refl wx.heap.size wx).alloc (Nat.le_refl _) (.cells #[.int .i64 tk,.int .i64 x.kind,.string x.text,.int .i64 x.int,.float .f64 x.real,.bool x.flag,.slice ad x.list.length cap,.bool false] 42);have hfw:=hI.trans (hal.mono hI.size)
               exact gives_value (u:=.slice (some ⟨wx.heap.size,0,none⟩) 1 1) (w' := wx.alloc (.cells #[.int .i64 tk,.int .i64 x.kind,.string x.text,.int .i64 x.int,.float .f64 x.real,.bool x.flag,.slice ad x.list.length cap,.bool false] 42)) (by simp [go_sem,q67,Tryz.underlying35]) ⟨Ar hfw,hal,wx.heap.size,rfl,fun j u hj=>(by rw [Nat.zero_add,World.cell?_alloc_new];simpa using hj),hfw⟩
             · refine VC.plain rfl fun a wx hf=>?_
               obtain ⟨v63,g63,s63⟩:=hf.got 4 (by kernel_rfl) (by intro j hj;simp [eats] at hj) rfl rfl;replace s63:=s63.trans (show v63=.slice ar s.results.length cr from g63);clear g63;have q63:=Ac s63;obtain ⟨v68,g68,s68⟩:=hf.got 9 (by kernel_rfl) (by intro j hj;simp [eats] at hj;omega) rfl rfl;have q68:=Ac s68;replace g68:(fun (v:Value) (w:World)=>∃b,v=.slice (some ⟨b,0,none⟩) 1 1/\w.rangeAt b 0 [.int .i64 tk,.int .i64 x.kind,.string x.text,.int .i64 x.int,.float .f64 x.real,.bool x.flag,.slice ad x.list.length cap,.bool false]/\Below U.heap.size U w) v68 wx:=g68;dsimp only at g68;have hI:=hf.start (by kernel_rfl);obtain ⟨b,rfl,g1,g2⟩:=g68
               obtain ⟨v', w', hrun,h1,h2,h3⟩:=A8 (P:=Tryz.prog) 35 eRes (hbuf.below hI) (Src.ofSlice _ Tryz.underlying35 ⟨b,0,none⟩ 1 1 [.int .i64 tk,.int .i64 x.kind,.string x.text,.int .i64 x.int,.float .f64 x.real,.bool x.flag,.slice ad x.list.length cap,.bool false] rfl (fun j u hj=>by rw [Cp];exact g1 j u hj) (by simp [Value.oneCell'])) rfl (Nat.zero_le _) hn9;have hfw:Fr (fun k=>(Value.slice ar s.results.length cr).ownBlock=some k) U w' := Fr.trans (Ar hI) h2;exact gives_value (u:=v') (w' := w') (by simp [execOp,resolve,invoke,builtin,s63,s68,hrun]) ⟨hfw.mono (fun _ _ e=>.inr e),h2,h1,hfw,fun k hk=>(h3 k hk).imp id (fun h=>Nat.le_trans hI.size h)⟩
             · refine VC.plain rfl fun a wx hf=>?_
               obtain ⟨v59,g59,s59⟩:=hf.got 0 (by kernel_rfl) (by intro j hj;simp [eats] at hj) rfl rfl;replace s59:=s59.trans (show v59=.pointer (some ⟨cb,0,none⟩) from g59);clear g59;have q59:=Ac s59;exact gives_value (by simp [go_sem,q59]) ⟨hf.c,rfl,rfl⟩
             · refine VC.plain rfl fun a wx hf=>?_
               obtain ⟨v70,g70,s70⟩:=hf.got 11 (by kernel_rfl) (by intro j hj;simp [eats] at hj) rfl rfl;replace s70:=s70.trans (show v70=.pointer (some ⟨cb,0,none⟩) from g70);clear g70;have q70:=Ac s70;exact gives_value (by simp [go_sem,q70]) ⟨hf.c,rfl,rfl⟩
             · refine VC.plain rfl fun a wx hf=>?_
               obtain ⟨v71,g71,s71⟩:=hf.got 12 (by kernel_rfl) (by intro j hj;simp [eats] at hj) rfl rfl;replace s71:=s71.trans (show v71=.pointer (some ⟨cb,12,none⟩) from g71);clear g71;have q71:=Ac s71;obtain ⟨v69,g69,s69⟩:=hf.got 10 (by kernel_rfl) (by intro j hj;simp [eats] at hj;omega) rfl rfl;have q69:=Ac s69;replace g69:(fun (v:Value) (w:World)=>AkK 8 U (.slice ar s.results.length cr) (s.results.length+1) (resL s.results rs++[.int .i64 tk,.int .i64 x.kind,.string x.text,.int .i64 x.int,.float .f64 x.real,.bool x.flag,.slice ad x.list.length cap,.bool false]) v w) v69 wx:=g69;dsimp only at g69;obtain ⟨h1,h2,h3⟩:=g69;obtain ⟨a9,c9,rfl,_⟩:=h1.shape;have hc:wx.cell? ⟨cb,12,none⟩=some (.slice ar s.results.length cr):=h2.cell c12 hcb
               exact gives_skip (w' := wx.setCell ⟨cb,12,none⟩ _) (by simp [go_sem,q71,q69,hc,(hblk.fr h2 hcb).frz 12 none]) ⟨(h2.mono (fun _ _ e=>.inr e)).setCell (fun _=>.inl rfl) _,((Fr.refl (fun k=>k=cb) wx).setCell (fun _=>rfl) _:Fr (fun k=>k=cb) wx _),_,wx,rfl,h1,h2,h3⟩
           · intro vs w8 _ hG
             obtain ⟨v2,w2,e2,hak⟩:=hG 13 (by decide) (by decide);clear hG hbuf hblk c12 hcb hbox;have hak2:AkK 8 U pu.vr (s.results++[(tk,x,false)]).length (resL (s.results++[(tk,x,false)]) (rs++[(ad,cap)])) v2 w2:=by
               rw [er.out,Di _ _ hrl,List.length_append];exact hak
             obtain ⟨o4,hC4,hP4,hw4⟩:=E4 hCU.out hPU.out (by rw [List.length_append,List.length_append,hrl];rfl) hak2;rw [<-e2] at hC4 hP4 hw4;have hfin:Cli o4 w8 cb (s0.answer x):=by rw [hfn.out];exact ⟨_,_,hC4,hP4,hqu⟩
             have hw:=Hd (hwU.out.trans hw4);clear hak hak2 hC4 hP4 hw4 e2 hCU hPU hwU er hfn;replace hfin:=Hd hfin;simp only [Al,Act.put,List.setIfInBounds_toArray,List.set_cons_zero,List.set_cons_succ];go_wp2_with fail
             go_end0
             first | exact ⟨rfl,o4,hfin.out,hw.out⟩ | exact ⟨o4,rfl,hfin.out,hw.out⟩
       · have hfn:s0.answer x={ s0 with asked:=l,results:=s0.results++[(tk,x,false)] }:=by unfold CS.answer;rw [hl.out];simp [h1.out,h3,h4]
         have hfn:s0.answer x={ s2 with results:=s2.results++[(tk,x,false)] }:=by rw [hfn,hs2.out]
         obtain ⟨U,hU⟩:∃U,U=W2:=⟨_,rfl⟩;have hPU:=hP2.out;have hCU:=hC2.out;have hbox:=hbox2.out;have hwU:=hww.out;rw [<-hU] at hPU hCU m0 m1 k0 hbox hwU ⊢;clear hU hP2 hC2 hbox2 hww hx2 hW2;replace hwU:=Hd hwU;obtain ⟨s,hs9⟩:∃s,s=s2:=⟨_,rfl⟩;obtain ⟨pu,hpu⟩:∃pu,pu=p2:=⟨_,rfl⟩;rw [<-hpu,<-hs9] at hPU hCU;rw [<-hs9] at hfn;have hqu:pu.qm=0/\pu.qs=0:=by rw [hpu];exact hq2
         have hrs:s.results.length<=1000000:=by rw [hs9];exact hr2
         clear hs9 hpu;by_cases h5:0<ti
         · have h2b:(x.kind == 2)=true:=by
             by_cases h6:x.kind=2
             · rw [h6];rfl
             · exact absurd ⟨h5,h6⟩ h4
           replace h4:=Hd h4;obtain ⟨ar,cr,er,_⟩:=hPU.results.shape;have c12:=hCU.c12;have hbuf:=hPU.results;have hcb:¬pu.vr.ownBlock=some cb:=fun e=>by have h1:=hPU.ovr cb e;rw [hPU.ocb] at h1;exact absurd h1 (by decide)
           have hblk:=hPU.blk;have hrl:=hPU.rlen;rw [er] at c12 hbuf hcb;have hn9:s.results.length+1<=1000000000:=by omega
           replace hCU:=Hd hCU;replace hPU:=Hd hPU;replace hbox:=Hd hbox;replace hbuf:=Hd hbuf;replace hblk:=Hd hblk;replace er:=Hd er;replace hfn:=Hd hfn;go_wp2_with fail
           have hbox:=hbox.out;have hbuf:=hbuf.out;have hblk:=hblk.out
           refine wp_region_rely (l:=[_,_,_,_,_,_,_,_,_,_,_,_,_,_]) (Fr (fun k=>k=cb\/(Value.slice ar s.results.length cr).ownBlock=some k) U) (Below U.heap.size U) (arR cb (Value.slice ar s.results.length cr)) (fun kG_=>([fun v _=>v=.pointer (some ⟨cb,0,none⟩),fun v _=>v=.pointer (some ⟨cb,0,none⟩),fun v _=>v=.pointer (some ⟨cb,0,none⟩),fun v _=>v=.pointer (some ⟨cb,12,none⟩),fun v _=>v=.slice ar s.results.length cr,fun v _=>v=.pointer (some ⟨M,0,none⟩),fun v _=>v=.int .i64 tk,fun v _=>v=.agg #[.int .i64 x.kind,.string x.text,.int .i64 x.int,.float .f64 x.real,.bool x.flag,.slice ad x.list.length cap],fun v _=>v=.agg #[.int .i64 tk,.int .i64 x.kind,.string x.text,.int .i64 x.int,.float .f64 x.real,.bool x.flag,.slice ad x.list.length cap,.bool false],fun v w=>∃b,v=.slice (some ⟨b,0,none⟩) 1 1/\w.rangeAt b 0 [.int .i64 tk,.int .i64 x.kind,.string x.text,.int .i64 x.int,.float .f64 x.real,.bool x.flag,.slice ad x.list.length cap,.bool false]/\Below U.heap.size U w,fun v w=>AkK 8 U (.slice ar s.results.length cr) (s.results.length+1) (resL s.results rs++[.int .i64 tk,.int .i64 x.kind,.string x.text,.int .i64 x.int,.float .f64 x.real,.bool x.flag,.slice ad x.list.length cap,.bool false]) v w,fun v _=>v=.pointer (some ⟨cb,0,none⟩),fun v _=>v=.pointer (some ⟨cb,12,none⟩),fun v w=>∃(v1:Value) (w1:World),w=w1.setCell ⟨cb,12,none⟩ v1/\AkK 8 U (.slice ar s.results.length cr) (s.results.length+1) (resL s.results rs++[.int .i64 tk,.int .i64 x.kind,.string x.text,.int .i64 x.int,.float .f64 x.real,.bool x.flag,.slice ad x.list.length cap,.bool false]) v1 w1]:List (Value->World->Prop)).getD kG_ (fun _ _=>True)) (eats [(10,9),(13,10)]) (isIn [10,13]) (by kernel_rfl) (by kernel_rfl) (by kernel_rfl) ((Fr.refl _ _).drew) ((Below.refl _ _).drew) ?_ ?_ ?_ ?_
           · intro i kG_ u w w' hne hE hg hr
             rcases kG_ with _ | _ | _ | _ | _ | _ | _ | _ | _ | _ | _ | _ | _ | _ | kG_
             · exact hg
             · exact hg
             · exact hg
             · exact hg
             · exact hg
             · exact hg
             · exact hg
             · exact hg
             · exact hg
             · replace hg:(fun (v:Value) (w:World)=>∃b,v=.slice (some ⟨b,0,none⟩) 1 1/\w.rangeAt b 0 [.int .i64 tk,.int .i64 x.kind,.string x.text,.int .i64 x.int,.float .f64 x.real,.bool x.flag,.slice ad x.list.length cap,.bool false]/\Below U.heap.size U w) u w:=hg
               show (fun (v:Value) (w:World)=>∃b,v=.slice (some ⟨b,0,none⟩) 1 1/\w.rangeAt b 0 [.int .i64 tk,.int .i64 x.kind,.string x.text,.int .i64 x.int,.float .f64 x.real,.bool x.flag,.slice ad x.list.length cap,.bool false]/\Below U.heap.size U w) u w';dsimp only at hg ⊢;replace hE:exB _ _ i 9=false:=hE;replace hne:9≠i:=hne;unfold arR at hr;split at hr
               all_goals first
                 | exact absurd rfl hne
                 | exact absurd (hE.symm.trans (by decide +kernel:exB _ _ _ _=true)) (by decide)
                 | (subst hr;exact hg)
                 | (fail)
             · replace hg:(fun (v:Value) (w:World)=>AkK 8 U (.slice ar s.results.length cr) (s.results.length+1) (resL s.results rs++[.int .i64 tk,.int .i64 x.kind,.string x.text,.int .i64 x.int,.float .f64 x.real,.bool x.flag,.slice ad x.list.length cap,.bool false]) v w) u w:=hg
               show (fun (v:Value) (w:World)=>AkK 8 U (.slice ar s.results.length cr) (s.results.length+1) (resL s.results rs++[.int .i64 tk,.int .i64 x.kind,.string x.text,.int .i64 x.int,.float .f64 x.real,.bool x.flag,.slice ad x.list.length cap,.bool false]) v w) u w';dsimp only at hg ⊢;replace hE:exB _ _ i 10=false:=hE;replace hne:10≠i:=hne;unfold arR at hr;split at hr
               all_goals first
                 | exact absurd rfl hne
                 | exact absurd (hE.symm.trans (by decide +kernel:exB _ _ _ _=true)) (by decide)
                 | (subst hr;exact hg)
                 | (fail)
             · exact hg
             · exact hg
             · replace hg:(fun (v:Value) (w:World)=>∃(v1:Value) (w1:World),w=w1.setCell ⟨cb,12,none⟩ v1/\AkK 8 U (.slice ar s.results.length cr) (s.results.length+1) (resL s.results rs++[.int .i64 tk,.int .i64 x.kind,.string x.text,.int .i64 x.int,.float .f64 x.real,.bool x.flag,.slice ad x.list.length cap,.bool false]) v1 w1) u w:=hg
               show (fun (v:Value) (w:World)=>∃(v1:Value) (w1:World),w=w1.setCell ⟨cb,12,none⟩ v1/\AkK 8 U (.slice ar s.results.length cr) (s.results.length+1) (resL s.results rs++[.int .i64 tk,.int .i64 x.kind,.string x.text,.int .i64 x.int,.float .f64 x.real,.bool x.flag,.slice ad x.list.length cap,.bool false]) v1 w1) u w';dsimp only at hg ⊢;replace hE:exB _ _ i 13=false:=hE;replace hne:13≠i:=hne;unfold arR at hr;split at hr
               all_goals first
                 | exact absurd rfl hne
                 | exact absurd (hE.symm.trans (by decide +kernel:exB _ _ _ _=true)) (by decide)
                 | (subst hr;exact hg)
                 | (fail)
             · trivial
           · intro i w w' hF hI hr
             unfold arR at hr;split at hr
             · exact hI.trans (hr.mono hI.size)
             · exact absurd hF (by decide)
             · exact absurd hF (by decide)
             · subst hr;exact hI
           · refine ⟨?_,?_,?_,?_,?_,?_,?_,?_,?_,?_,?_,?_,?_,?_,trivial⟩
             · refine VC.plain rfl fun a wx hf=>?_
               have s0:=hf.old 0 (by first | rfl | kernel_rfl);have q0:=Ac s0;exact gives_value (by simp [go_sem,q0]) ⟨hf.c,rfl,rfl⟩
             · refine VC.plain rfl fun a wx hf=>?_
               have s0:=hf.old 0 (by first | rfl | kernel_rfl);have q0:=Ac s0;exact gives_value (by simp [go_sem,q0]) ⟨hf.c,rfl,rfl⟩
             · refine VC.plain rfl fun a wx hf=>?_
               obtain ⟨v60,g60,s60⟩:=hf.got 1 (by kernel_rfl) (by intro j hj;simp [eats] at hj) rfl rfl;replace s60:=s60.trans (show v60=.pointer (some ⟨cb,0,none⟩) from g60);clear g60;have q60:=Ac s60;exact gives_value (by simp [go_sem,q60]) ⟨hf.c,rfl,rfl⟩
             · refine VC.plain rfl fun a wx hf=>?_
               obtain ⟨v61,g61,s61⟩:=hf.got 2 (by kernel_rfl) (by intro j hj;simp [eats] at hj) rfl rfl;replace s61:=s61.trans (show v61=.pointer (some ⟨cb,0,none⟩) from g61);clear g61;have q61:=Ac s61;exact gives_value (by simp [go_sem,q61]) ⟨hf.c,rfl,rfl⟩
             · refine VC.plain rfl fun a wx hf=>?_
               obtain ⟨v62,g62,s62⟩:=hf.got 3 (by kernel_rfl) (by intro j hj;simp [eats] at hj) rfl rfl;replace s62:=s62.trans (show v62=.pointer (some ⟨cb,12,none⟩) from g62);clear g62;have q62:=Ac s62;have hI:=hf.start (by kernel_rfl);have hc:=Aa hI _ _ c12;exact gives_value (by simp [go_sem,q62,hc]) ⟨hf.c,rfl,rfl⟩
             · refine VC.plain rfl fun a wx hf=>?_
               have s4:=hf.old 4 (by first | rfl | kernel_rfl);have q4:=Ac s4;exact gives_value (by simp [go_sem,q4]) ⟨hf.c,rfl,rfl⟩
             · refine VC.plain rfl fun a wx hf=>?_
               obtain ⟨v64,g64,s64⟩:=hf.got 5 (by kernel_rfl) (by intro j hj;simp [eats] at hj) rfl rfl;replace s64:=s64.trans (show v64=.pointer (some ⟨M,0,none⟩) from g64);clear g64;have q64:=Ac s64;have hI:=hf.start (by kernel_rfl);have hc:=Aa hI _ _ m0;exact gives_value (by simp [go_sem,q64,hc]) ⟨hf.c,rfl,rfl⟩
             · refine VC.plain rfl fun a wx hf=>?_
               have s3:=hf.old 3 (by first | rfl | kernel_rfl);have q3:=Ac s3;have hI:=hf.start (by kernel_rfl);exact A0 rfl s3 (fun j y hj=>Aa hI _ _ (hbox j y hj)) Tryz.underlying40 rfl Ai ⟨hf.c,rfl,rfl⟩
             · refine VC.plain rfl fun a wx hf=>?_
               obtain ⟨v65,g65,s65⟩:=hf.got 6 (by kernel_rfl) (by intro j hj;simp [eats] at hj) rfl rfl;replace s65:=s65.trans (show v65=.int .i64 tk from g65);clear g65;have q65:=Ac s65;obtain ⟨v66,g66,s66⟩:=hf.got 7 (by kernel_rfl) (by intro j hj;simp [eats] at hj) rfl rfl;replace s66:=s66.trans (show v66=.agg #[.int .i64 x.kind,.string x.text,.int .i64 x.int,.float .f64 x.real,.bool x.flag,.slice ad x.list.length cap] from g66);clear g66;have q66:=Ac s66;exact gives_value (by simp [go_sem,q65,q66]) ⟨hf.c,rfl,rfl⟩
             · refine VC.plain rfl fun a wx hf=>?_
               obtain ⟨v67,g67,s67⟩:=hf.got 8 (by kernel_rfl) (by intro j hj;simp [eats] at hj) rfl rfl;replace s67:=s67.trans (show v67=.agg #[.int .i64 tk,.int .i64 x.kind,.string x.text,.int .i64 x.int,.float .f64 x.real,.bool x.flag,.slice ad x.list.length cap,.bool false] from g67);clear g67;have q67:=Ac s67;have hI:=hf.start (by kernel_rfl);have hal:=(Below.refl wx.heap.size wx).alloc (Nat.le_refl _) (.cells #[.int .i64 tk,.int .i64 x.kind,.string x.text,.int .i64 x.int,.float .f64 x.real,.bool x.flag,.slice ad x.list.length cap,.bool false] 42);have hfw:=hI.trans (hal.mono hI.size)
               exact gives_value (u:=.slice (some ⟨wx.heap.size,0,none⟩) 1 1) (w' := wx.alloc (.cells #[.int .i64 tk,.int .i64 x.kind,.string x.text,.int .i64 x.int,.float .f64 x.real,.bool x.flag,.slice ad x.list.length cap,.bool false] 42)) (by simp [go_sem,q67,Tryz.underlying35]) ⟨Ar hfw,hal,wx.heap.size,rfl,fun j u hj=>(by rw [Nat.zero_add,World.cell?_alloc_new];simpa using hj),hfw⟩
             · refine VC.plain rfl fun a wx hf=>?_
               obtain ⟨v63,g63,s63⟩:=hf.got 4 (by kernel_rfl) (by intro j hj;simp [eats] at hj) rfl rfl;replace s63:=s63.trans (show v63=.slice ar s.results.length cr from g63);clear g63;have q63:=Ac s63;obtain ⟨v68,g68,s68⟩:=hf.got 9 (by kernel_rfl) (by intro j hj;simp [eats] at hj;omega) rfl rfl;have q68:=Ac s68;replace g68:(fun (v:Value) (w:World)=>∃b,v=.slice (some ⟨b,0,none⟩) 1 1/\w.rangeAt b 0 [.int .i64 tk,.int .i64 x.kind,.string x.text,.int .i64 x.int,.float .f64 x.real,.bool x.flag,.slice ad x.list.length cap,.bool false]/\Below U.heap.size U w) v68 wx:=g68;dsimp only at g68;have hI:=hf.start (by kernel_rfl);obtain ⟨b,rfl,g1,g2⟩:=g68
               obtain ⟨v', w', hrun,h1,h2,h3⟩:=A8 (P:=Tryz.prog) 35 eRes (hbuf.below hI) (Src.ofSlice _ Tryz.underlying35 ⟨b,0,none⟩ 1 1 [.int .i64 tk,.int .i64 x.kind,.string x.text,.int .i64 x.int,.float .f64 x.real,.bool x.flag,.slice ad x.list.length cap,.bool false] rfl (fun j u hj=>by rw [Cp];exact g1 j u hj) (by simp [Value.oneCell'])) rfl (Nat.zero_le _) hn9;have hfw:Fr (fun k=>(Value.slice ar s.results.length cr).ownBlock=some k) U w' := Fr.trans (Ar hI) h2;exact gives_value (u:=v') (w' := w') (by simp [execOp,resolve,invoke,builtin,s63,s68,hrun]) ⟨hfw.mono (fun _ _ e=>.inr e),h2,h1,hfw,fun k hk=>(h3 k hk).imp id (fun h=>Nat.le_trans hI.size h)⟩
             · refine VC.plain rfl fun a wx hf=>?_
               obtain ⟨v59,g59,s59⟩:=hf.got 0 (by kernel_rfl) (by intro j hj;simp [eats] at hj) rfl rfl;replace s59:=s59.trans (show v59=.pointer (some ⟨cb,0,none⟩) from g59);clear g59;have q59:=Ac s59;exact gives_value (by simp [go_sem,q59]) ⟨hf.c,rfl,rfl⟩
             · refine VC.plain rfl fun a wx hf=>?_
               obtain ⟨v70,g70,s70⟩:=hf.got 11 (by kernel_rfl) (by intro j hj;simp [eats] at hj) rfl rfl;replace s70:=s70.trans (show v70=.pointer (some ⟨cb,0,none⟩) from g70);clear g70;have q70:=Ac s70;exact gives_value (by simp [go_sem,q70]) ⟨hf.c,rfl,rfl⟩
             · refine VC.plain rfl fun a wx hf=>?_
               obtain ⟨v71,g71,s71⟩:=hf.got 12 (by kernel_rfl) (by intro j hj;simp [eats] at hj) rfl rfl;replace s71:=s71.trans (show v71=.pointer (some ⟨cb,12,none⟩) from g71);clear g71;have q71:=Ac s71;obtain ⟨v69,g69,s69⟩:=hf.got 10 (by kernel_rfl) (by intro j hj;simp [eats] at hj;omega) rfl rfl;have q69:=Ac s69;replace g69:(fun (v:Value) (w:World)=>AkK 8 U (.slice ar s.results.length cr) (s.results.length+1) (resL s.results rs++[.int .i64 tk,.int .i64 x.kind,.string x.text,.int .i64 x.int,.float .f64 x.real,.bool x.flag,.slice ad x.list.length cap,.bool false]) v w) v69 wx:=g69;dsimp only at g69;obtain ⟨h1,h2,h3⟩:=g69;obtain ⟨a9,c9,rfl,_⟩:=h1.shape;have hc:wx.cell? ⟨cb,12,none⟩=some (.slice ar s.results.length cr):=h2.cell c12 hcb
               exact gives_skip (w' := wx.setCell ⟨cb,12,none⟩ _) (by simp [go_sem,q71,q69,hc,(hblk.fr h2 hcb).frz 12 none]) ⟨(h2.mono (fun _ _ e=>.inr e)).setCell (fun _=>.inl rfl) _,((Fr.refl (fun k=>k=cb) wx).setCell (fun _=>rfl) _:Fr (fun k=>k=cb) wx _),_,wx,rfl,h1,h2,h3⟩
           · intro vs w8 _ hG
             obtain ⟨v2,w2,e2,hak⟩:=hG 13 (by decide) (by decide);clear hG hbuf hblk c12 hcb hbox;have hak2:AkK 8 U pu.vr (s.results++[(tk,x,false)]).length (resL (s.results++[(tk,x,false)]) (rs++[(ad,cap)])) v2 w2:=by
               rw [er.out,Di _ _ hrl,List.length_append];exact hak
             obtain ⟨o4,hC4,hP4,hw4⟩:=E4 hCU.out hPU.out (by rw [List.length_append,List.length_append,hrl];rfl) hak2;rw [<-e2] at hC4 hP4 hw4;have hfin:Cli o4 w8 cb (s0.answer x):=by rw [hfn.out];exact ⟨_,_,hC4,hP4,hqu⟩
             have hw:=Hd (hwU.out.trans hw4);clear hak hak2 hC4 hP4 hw4 e2 hCU hPU hwU er hfn;replace hfin:=Hd hfin;simp only [Al,Act.put,List.setIfInBounds_toArray,List.set_cons_zero,List.set_cons_succ];go_wp2_with fail
             go_end0
             first | exact ⟨rfl,o4,hfin.out,hw.out⟩ | exact ⟨o4,rfl,hfin.out,hw.out⟩
         · obtain ⟨f9,hf9⟩:∃f9,f9=(x.kind == 2):=⟨_,rfl⟩
           replace hf9:=hf9.symm;replace h4:=Hd h4;obtain ⟨ar,cr,er,_⟩:=hPU.results.shape;have c12:=hCU.c12;have hbuf:=hPU.results;have hcb:¬pu.vr.ownBlock=some cb:=fun e=>by have h1:=hPU.ovr cb e;rw [hPU.ocb] at h1;exact absurd h1 (by decide)
           have hblk:=hPU.blk;have hrl:=hPU.rlen;rw [er] at c12 hbuf hcb;have hn9:s.results.length+1<=1000000000:=by omega
           replace hCU:=Hd hCU;replace hPU:=Hd hPU;replace hbox:=Hd hbox;replace hbuf:=Hd hbuf;replace hblk:=Hd hblk;replace er:=Hd er;replace hfn:=Hd hfn;go_wp2_with fail
           have hbox:=hbox.out;have hbuf:=hbuf.out;have hblk:=hblk.out
           refine wp_region_rely (l:=[_,_,_,_,_,_,_,_,_,_,_,_,_,_]) (Fr (fun k=>k=cb\/(Value.slice ar s.results.length cr).ownBlock=some k) U) (Below U.heap.size U) (arR cb (Value.slice ar s.results.length cr)) (fun kG_=>([fun v _=>v=.pointer (some ⟨cb,0,none⟩),fun v _=>v=.pointer (some ⟨cb,0,none⟩),fun v _=>v=.pointer (some ⟨cb,0,none⟩),fun v _=>v=.pointer (some ⟨cb,12,none⟩),fun v _=>v=.slice ar s.results.length cr,fun v _=>v=.pointer (some ⟨M,0,none⟩),fun v _=>v=.int .i64 tk,fun v _=>v=.agg #[.int .i64 x.kind,.string x.text,.int .i64 x.int,.float .f64 x.real,.bool x.flag,.slice ad x.list.length cap],fun v _=>v=.agg #[.int .i64 tk,.int .i64 x.kind,.string x.text,.int .i64 x.int,.float .f64 x.real,.bool x.flag,.slice ad x.list.length cap,.bool false],fun v w=>∃b,v=.slice (some ⟨b,0,none⟩) 1 1/\w.rangeAt b 0 [.int .i64 tk,.int .i64 x.kind,.string x.text,.int .i64 x.int,.float .f64 x.real,.bool x.flag,.slice ad x.list.length cap,.bool false]/\Below U.heap.size U w,fun v w=>AkK 8 U (.slice ar s.results.length cr) (s.results.length+1) (resL s.results rs++[.int .i64 tk,.int .i64 x.kind,.string x.text,.int .i64 x.int,.float .f64 x.real,.bool x.flag,.slice ad x.list.length cap,.bool false]) v w,fun v _=>v=.pointer (some ⟨cb,0,none⟩),fun v _=>v=.pointer (some ⟨cb,12,none⟩),fun v w=>∃(v1:Value) (w1:World),w=w1.setCell ⟨cb,12,none⟩ v1/\AkK 8 U (.slice ar s.results.length cr) (s.results.length+1) (resL s.results rs++[.int .i64 tk,.int .i64 x.kind,.string x.text,.int .i64 x.int,.float .f64 x.real,.bool x.flag,.slice ad x.list.length cap,.bool false]) v1 w1]:List (Value->World->Prop)).getD kG_ (fun _ _=>True)) (eats [(10,9),(13,10)]) (isIn [10,13]) (by kernel_rfl) (by kernel_rfl) (by kernel_rfl) ((Fr.refl _ _).drew) ((Below.refl _ _).drew) ?_ ?_ ?_ ?_
           · intro i kG_ u w w' hne hE hg hr
             rcases kG_ with _ | _ | _ | _ | _ | _ | _ | _ | _ | _ | _ | _ | _ | _ | kG_
             · exact hg
             · exact hg
             · exact hg
             · exact hg
             · exact hg
             · exact hg
             · exact hg
             · exact hg
             · exact hg
             · replace hg:(fun (v:Value) (w:World)=>∃b,v=.slice (some ⟨b,0,none⟩) 1 1/\w.rangeAt b 0 [.int .i64 tk,.int .i64 x.kind,.string x.text,.int .i64 x.int,.float .f64 x.real,.bool x.flag,.slice ad x.list.length cap,.bool false]/\Below U.heap.size U w) u w:=hg
               show (fun (v:Value) (w:World)=>∃b,v=.slice (some ⟨b,0,none⟩) 1 1/\w.rangeAt b 0 [.int .i64 tk,.int .i64 x.kind,.string x.text,.int .i64 x.int,.float .f64 x.real,.bool x.flag,.slice ad x.list.length cap,.bool false]/\Below U.heap.size U w) u w';dsimp only at hg ⊢;replace hE:exB _ _ i 9=false:=hE;replace hne:9≠i:=hne;unfold arR at hr;split at hr
               all_goals first
                 | exact absurd rfl hne
                 | exact absurd (hE.symm.trans (by decide +kernel:exB _ _ _ _=true)) (by decide)
                 | (subst hr;exact hg)
                 | (fail)
             · replace hg:(fun (v:Value) (w:World)=>AkK 8 U (.slice ar s.results.length cr) (s.results.length+1) (resL s.results rs++[.int .i64 tk,.int .i64 x.kind,.string x.text,.int .i64 x.int,.float .f64 x.real,.bool x.flag,.slice ad x.list.length cap,.bool false]) v w) u w:=hg
               show (fun (v:Value) (w:World)=>AkK 8 U (.slice ar s.results.length cr) (s.results.length+1) (resL s.results rs++[.int .i64 tk,.int .i64 x.kind,.string x.text,.int .i64 x.int,.float .f64 x.real,.bool x.flag,.slice ad x.list.length cap,.bool false]) v w) u w';dsimp only at hg ⊢;replace hE:exB _ _ i 10=false:=hE;replace hne:10≠i:=hne;unfold arR at hr;split at hr
               all_goals first
                 | exact absurd rfl hne
                 | exact absurd (hE.symm.trans (by decide +kernel:exB _ _ _ _=true)) (by decide)
                 | (subst hr;exact hg)
                 | (fail)
             · exact hg
             · exact hg
             · replace hg:(fun (v:Value) (w:World)=>∃(v1:Value) (w1:World),w=w1.setCell ⟨cb,12,none⟩ v1/\AkK 8 U (.slice ar s.results.length cr) (s.results.length+1) (resL s.results rs++[.int .i64 tk,.int .i64 x.kind,.string x.text,.int .i64 x.int,.float .f64 x.real,.bool x.flag,.slice ad x.list.length cap,.bool false]) v1 w1) u w:=hg
               show (fun (v:Value) (w:World)=>∃(v1:Value) (w1:World),w=w1.setCell ⟨cb,12,none⟩ v1/\AkK 8 U (.slice ar s.results.length cr) (s.results.length+1) (resL s.results rs++[.int .i64 tk,.int .i64 x.kind,.string x.text,.int .i64 x.int,.float .f64 x.real,.bool x.flag,.slice ad x.list.length cap,.bool false]) v1 w1) u w';dsimp only at hg ⊢;replace hE:exB _ _ i 13=false:=hE;replace hne:13≠i:=hne;unfold arR at hr;split at hr
               all_goals first
                 | exact absurd rfl hne
                 | exact absurd (hE.symm.trans (by decide +kernel:exB _ _ _ _=true)) (by decide)
                 | (subst hr;exact hg)
                 | (fail)
             · trivial
           · intro i w w' hF hI hr
             unfold arR at hr;split at hr
             · exact hI.trans (hr.mono hI.size)
             · exact absurd hF (by decide)
             · exact absurd hF (by decide)
             · subst hr;exact hI
           · refine ⟨?_,?_,?_,?_,?_,?_,?_,?_,?_,?_,?_,?_,?_,?_,trivial⟩
             · refine VC.plain rfl fun a wx hf=>?_
               have s0:=hf.old 0 (by first | rfl | kernel_rfl);have q0:=Ac s0;exact gives_value (by simp [go_sem,q0]) ⟨hf.c,rfl,rfl⟩
             · refine VC.plain rfl fun a wx hf=>?_
               have s0:=hf.old 0 (by first | rfl | kernel_rfl);have q0:=Ac s0;exact gives_value (by simp [go_sem,q0]) ⟨hf.c,rfl,rfl⟩
             · refine VC.plain rfl fun a wx hf=>?_
               obtain ⟨v60,g60,s60⟩:=hf.got 1 (by kernel_rfl) (by intro j hj;simp [eats] at hj) rfl rfl;replace s60:=s60.trans (show v60=.pointer (some ⟨cb,0,none⟩) from g60);clear g60;have q60:=Ac s60;exact gives_value (by simp [go_sem,q60]) ⟨hf.c,rfl,rfl⟩
             · refine VC.plain rfl fun a wx hf=>?_
               obtain ⟨v61,g61,s61⟩:=hf.got 2 (by kernel_rfl) (by intro j hj;simp [eats] at hj) rfl rfl;replace s61:=s61.trans (show v61=.pointer (some ⟨cb,0,none⟩) from g61);clear g61;have q61:=Ac s61;exact gives_value (by simp [go_sem,q61]) ⟨hf.c,rfl,rfl⟩
             · refine VC.plain rfl fun a wx hf=>?_
               obtain ⟨v62,g62,s62⟩:=hf.got 3 (by kernel_rfl) (by intro j hj;simp [eats] at hj) rfl rfl;replace s62:=s62.trans (show v62=.pointer (some ⟨cb,12,none⟩) from g62);clear g62;have q62:=Ac s62;have hI:=hf.start (by kernel_rfl);have hc:=Aa hI _ _ c12;exact gives_value (by simp [go_sem,q62,hc]) ⟨hf.c,rfl,rfl⟩
             · refine VC.plain rfl fun a wx hf=>?_
               have s4:=hf.old 4 (by first | rfl | kernel_rfl);have q4:=Ac s4;exact gives_value (by simp [go_sem,q4]) ⟨hf.c,rfl,rfl⟩
             · refine VC.plain rfl fun a wx hf=>?_
               obtain ⟨v64,g64,s64⟩:=hf.got 5 (by kernel_rfl) (by intro j hj;simp [eats] at hj) rfl rfl;replace s64:=s64.trans (show v64=.pointer (some ⟨M,0,none⟩) from g64);clear g64;have q64:=Ac s64;have hI:=hf.start (by kernel_rfl);have hc:=Aa hI _ _ m0;exact gives_value (by simp [go_sem,q64,hc]) ⟨hf.c,rfl,rfl⟩
             · refine VC.plain rfl fun a wx hf=>?_
               have s3:=hf.old 3 (by first | rfl | kernel_rfl);have q3:=Ac s3;have hI:=hf.start (by kernel_rfl);exact A0 rfl s3 (fun j y hj=>Aa hI _ _ (hbox j y hj)) Tryz.underlying40 rfl Ai ⟨hf.c,rfl,rfl⟩
             · refine VC.plain rfl fun a wx hf=>?_
               obtain ⟨v65,g65,s65⟩:=hf.got 6 (by kernel_rfl) (by intro j hj;simp [eats] at hj) rfl rfl;replace s65:=s65.trans (show v65=.int .i64 tk from g65);clear g65;have q65:=Ac s65;obtain ⟨v66,g66,s66⟩:=hf.got 7 (by kernel_rfl) (by intro j hj;simp [eats] at hj) rfl rfl;replace s66:=s66.trans (show v66=.agg #[.int .i64 x.kind,.string x.text,.int .i64 x.int,.float .f64 x.real,.bool x.flag,.slice ad x.list.length cap] from g66);clear g66;have q66:=Ac s66;exact gives_value (by simp [go_sem,q65,q66]) ⟨hf.c,rfl,rfl⟩
             · refine VC.plain rfl fun a wx hf=>?_
               obtain ⟨v67,g67,s67⟩:=hf.got 8 (by kernel_rfl) (by intro j hj;simp [eats] at hj) rfl rfl;replace s67:=s67.trans (show v67=.agg #[.int .i64 tk,.int .i64 x.kind,.string x.text,.int .i64 x.int,.float .f64 x.real,.bool x.flag,.slice ad x.list.length cap,.bool false] from g67);clear g67;have q67:=Ac s67;have hI:=hf.start (by kernel_rfl);have hal:=(Below.refl wx.heap.size wx).alloc (Nat.le_refl _) (.cells #[.int .i64 tk,.int .i64 x.kind,.string x.text,.int .i64 x.int,.float .f64 x.real,.bool x.flag,.slice ad x.list.length cap,.bool false] 42);have hfw:=hI.trans (hal.mono hI.size)
               exact gives_value (u:=.slice (some ⟨wx.heap.size,0,none⟩) 1 1) (w' := wx.alloc (.cells #[.int .i64 tk,.int .i64 x.kind,.string x.text,.int .i64 x.int,.float .f64 x.real,.bool x.flag,.slice ad x.list.length cap,.bool false] 42)) (by simp [go_sem,q67,Tryz.underlying35]) ⟨Ar hfw,hal,wx.heap.size,rfl,fun j u hj=>(by rw [Nat.zero_add,World.cell?_alloc_new];simpa using hj),hfw⟩
             · refine VC.plain rfl fun a wx hf=>?_
               obtain ⟨v63,g63,s63⟩:=hf.got 4 (by kernel_rfl) (by intro j hj;simp [eats] at hj) rfl rfl;replace s63:=s63.trans (show v63=.slice ar s.results.length cr from g63);clear g63;have q63:=Ac s63;obtain ⟨v68,g68,s68⟩:=hf.got 9 (by kernel_rfl) (by intro j hj;simp [eats] at hj;omega) rfl rfl;have q68:=Ac s68;replace g68:(fun (v:Value) (w:World)=>∃b,v=.slice (some ⟨b,0,none⟩) 1 1/\w.rangeAt b 0 [.int .i64 tk,.int .i64 x.kind,.string x.text,.int .i64 x.int,.float .f64 x.real,.bool x.flag,.slice ad x.list.length cap,.bool false]/\Below U.heap.size U w) v68 wx:=g68;dsimp only at g68;have hI:=hf.start (by kernel_rfl);obtain ⟨b,rfl,g1,g2⟩:=g68
               obtain ⟨v', w', hrun,h1,h2,h3⟩:=A8 (P:=Tryz.prog) 35 eRes (hbuf.below hI) (Src.ofSlice _ Tryz.underlying35 ⟨b,0,none⟩ 1 1 [.int .i64 tk,.int .i64 x.kind,.string x.text,.int .i64 x.int,.float .f64 x.real,.bool x.flag,.slice ad x.list.length cap,.bool false] rfl (fun j u hj=>by rw [Cp];exact g1 j u hj) (by simp [Value.oneCell'])) rfl (Nat.zero_le _) hn9;have hfw:Fr (fun k=>(Value.slice ar s.results.length cr).ownBlock=some k) U w' := Fr.trans (Ar hI) h2;exact gives_value (u:=v') (w' := w') (by simp [execOp,resolve,invoke,builtin,s63,s68,hrun]) ⟨hfw.mono (fun _ _ e=>.inr e),h2,h1,hfw,fun k hk=>(h3 k hk).imp id (fun h=>Nat.le_trans hI.size h)⟩
             · refine VC.plain rfl fun a wx hf=>?_
               obtain ⟨v59,g59,s59⟩:=hf.got 0 (by kernel_rfl) (by intro j hj;simp [eats] at hj) rfl rfl;replace s59:=s59.trans (show v59=.pointer (some ⟨cb,0,none⟩) from g59);clear g59;have q59:=Ac s59;exact gives_value (by simp [go_sem,q59]) ⟨hf.c,rfl,rfl⟩
             · refine VC.plain rfl fun a wx hf=>?_
               obtain ⟨v70,g70,s70⟩:=hf.got 11 (by kernel_rfl) (by intro j hj;simp [eats] at hj) rfl rfl;replace s70:=s70.trans (show v70=.pointer (some ⟨cb,0,none⟩) from g70);clear g70;have q70:=Ac s70;exact gives_value (by simp [go_sem,q70]) ⟨hf.c,rfl,rfl⟩
             · refine VC.plain rfl fun a wx hf=>?_
               obtain ⟨v71,g71,s71⟩:=hf.got 12 (by kernel_rfl) (by intro j hj;simp [eats] at hj) rfl rfl;replace s71:=s71.trans (show v71=.pointer (some ⟨cb,12,none⟩) from g71);clear g71;have q71:=Ac s71;obtain ⟨v69,g69,s69⟩:=hf.got 10 (by kernel_rfl) (by intro j hj;simp [eats] at hj;omega) rfl rfl;have q69:=Ac s69;replace g69:(fun (v:Value) (w:World)=>AkK 8 U (.slice ar s.results.length cr) (s.results.length+1) (resL s.results rs++[.int .i64 tk,.int .i64 x.kind,.string x.text,.int .i64 x.int,.float .f64 x.real,.bool x.flag,.slice ad x.list.length cap,.bool false]) v w) v69 wx:=g69;dsimp only at g69;obtain ⟨h1,h2,h3⟩:=g69;obtain ⟨a9,c9,rfl,_⟩:=h1.shape;have hc:wx.cell? ⟨cb,12,none⟩=some (.slice ar s.results.length cr):=h2.cell c12 hcb
               exact gives_skip (w' := wx.setCell ⟨cb,12,none⟩ _) (by simp [go_sem,q71,q69,hc,(hblk.fr h2 hcb).frz 12 none]) ⟨(h2.mono (fun _ _ e=>.inr e)).setCell (fun _=>.inl rfl) _,((Fr.refl (fun k=>k=cb) wx).setCell (fun _=>rfl) _:Fr (fun k=>k=cb) wx _),_,wx,rfl,h1,h2,h3⟩
           · intro vs w8 _ hG
             obtain ⟨v2,w2,e2,hak⟩:=hG 13 (by decide) (by decide);clear hG hbuf hblk c12 hcb hbox;have hak2:AkK 8 U pu.vr (s.results++[(tk,x,false)]).length (resL (s.results++[(tk,x,false)]) (rs++[(ad,cap)])) v2 w2:=by
               rw [er.out,Di _ _ hrl,List.length_append];exact hak
             obtain ⟨o4,hC4,hP4,hw4⟩:=E4 hCU.out hPU.out (by rw [List.length_append,List.length_append,hrl];rfl) hak2;rw [<-e2] at hC4 hP4 hw4;have hfin:Cli o4 w8 cb (s0.answer x):=by rw [hfn.out];exact ⟨_,_,hC4,hP4,hqu⟩
             have hw:=Hd (hwU.out.trans hw4);clear hak hak2 hC4 hP4 hw4 e2 hCU hPU hwU er hfn;replace hfin:=Hd hfin;simp only [Al,Act.put,List.setIfInBounds_toArray,List.set_cons_zero,List.set_cons_succ];go_wp2_with fail
             go_end0
             first | exact ⟨rfl,o4,hfin.out,hw.out⟩ | exact ⟨o4,rfl,hfin.out,hw.out⟩
     · have hfn:s0.answer x={ s0 with asked:=l }:=by unfold CS.answer;rw [hl.out];simp [h1.out,h3]
       obtain ⟨f9,hf9⟩:∃f9,f9=(x.kind == 2):=⟨_,rfl⟩;replace hf9:=hf9.symm;have hfin:Cli o2 W2 cb (s0.answer x):=by rw [hfn,<-hs2.out];exact ⟨_,_,hC2.out,hP2.out,hq2⟩
       replace hfin:=Hd hfin;clear hfn;go_wp2_with fail
       go_end0
       first | exact ⟨rfl,o2,hfin.out,hww.out⟩ | exact ⟨o2,rfl,hfin.out,hww.out⟩
end R2
end Go.Proofs.YtfaihaoajdcjbaaGreatDoor
