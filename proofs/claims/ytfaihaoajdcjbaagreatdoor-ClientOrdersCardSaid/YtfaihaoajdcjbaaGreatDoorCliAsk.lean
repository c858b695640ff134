/- The client: what is asked. -/
import Derived.Test.YtfaihaoajdcjbaaGreatDoorCliA
import Derived.Test.YtfaihaoajdcjbaaGreatDoorJ9
import Derived.Test.YtfaihaoajdcjbaaGreatDoorJ30
set_option linter.all false
namespace Go.Proofs.YtfaihaoajdcjbaaGreatDoor
open Go.RowKit Go.Joins
def akR (cb:Nat) (vo:Value) (i:Nat) (w w' : World):Prop:=match i with
 | 6=>Below w.heap.size w w'
 | 7=>Fr (fun k=>vo.ownBlock=some k) w w'
 | 10=>Fr (fun k=>k=cb) w w'
 | _=>w' = w
theorem row_mono {B B' : Nat} {w:World} {v:Value} {s:ByteArray} (h:Row B w v s) (hB:B' <= B):Row B' w v s:=by
 refine ⟨h.own.1,?_⟩;rcases h.own.2 with h2 | ⟨g,cap,cur,e1,e2,e3⟩
 · exact Or.inl h2
 · exact Or.inr ⟨g,cap,cur,e1,Nat.le_trans hB e2,e3⟩
theorem Dk:(Tryz.prog.info? 71).map (·.size)=some 2:=by kernel_rfl
namespace R2
set_option maxRecDepth 100000 in
set_option maxHeartbeats 6400000 in
theorem ask_any {ow:Nat->Nat} {w0:World} {cb n ca:Nat} {ad:Option Addr} {s:CS} {l:List ByteArray} (tk ti:Int) (h:Cli ow w0 cb s) (hx:Reads w0 1 (.slice ad n ca) n (l.map Value.string)) (hl:∀t∈l,t.size<=1000000) (hn:n<=1000) (ho:s.out.size<=1000000000) (hk:s.asked.length<=1000000) :
   Calls Tryz.prog 31 #[P0 cb,.agg #[.int .i64 tk,.int .i64 ti],.slice ad n ca] w0 fun e w' => ∃ow', e=.returned (.tuple #[])/\Cli ow' w' cb (s.ask tk ti l)/\CW ow w0 ow' w' := by
 obtain ⟨p,rs,hC,hP,hq⟩:=h.out;obtain ⟨W,hW⟩:∃W,W=w0.alloc (.cells #[.int .i64 tk,.int .i64 ti] 71):=⟨_,rfl⟩;have hb:Below w0.heap.size w0 W:=by rw [hW];exact (Below.refl _ _).alloc (Nat.le_refl _) _
 have hbox:W.rangeAt w0.heap.size 0 [.int .i64 tk,.int .i64 ti]:=by
   rw [hW];intro j u hj;rw [Nat.zero_add,World.cell?_alloc_new];simpa using hj
 have hbl:w0.heap.size<W.heap.size:=by rw [hW];simp
 have hz:=hP.zero w0.heap.size (Nat.le_refl _);obtain ⟨hP0,hw0⟩:=hP.grow hb;have hC0:=hC.below hb;have hxW:=hx.below hb;have hll:=hx.len.2;simp only [List.length_map,Nat.mul_one] at hll;clear h hC hP hx;obtain ⟨ao,co,eo,_⟩:=hP0.out.shape;have c10:=hC0.c10;have hbuf:=hP0.out;have hcb:¬p.vo.ownBlock=some cb:=fun e=>by have:=hP0.ovo cb e;rw [hP0.ocb] at this;omega
 have hblk:=hP0.blk;rw [eo] at c10 hbuf hcb;have hcs:=F1 hl (by omega);have hn47:s.out.size+(Ak l).size<=140737488355328:=by omega
 have hcom:∀wx,Below W.heap.size W wx->Calls Tryz.prog 53 #[.slice ad n ca] wx fun e w' => ∃v,e=.returned v/\Fr (fun k=>k=cb\/(Value.slice ao s.out.size co).ownBlock=some k) W w' /\ Below wx.heap.size wx w' /\ Row W.heap.size w' v (Ak l)/\Below W.heap.size W w' := fun wx hI=>
   (command_any (hxW.below hI) hl hn (hP0.grow hI).1.laid.laid).mono fun e w' ⟨v,he,hR,hb⟩=>⟨v,he,Ar (hI.trans (hb.mono hI.size)),hb,row_mono hR hI.size,hI.trans (hb.mono hI.size)⟩
 replace hz:=Hd hz;replace hcom:=Hd hcom;replace hP0:=Hd hP0;replace hC0:=Hd hC0;replace hbox:=Hd hbox;replace hw0:=Hd hw0;replace hbuf:=Hd hbuf;replace hblk:=Hd hblk;replace eo:=Hd eo;replace hW:=Hd hW;replace hl:=Hd hl
 go_enter Tryz.func31,Tryz.ntmps31
 go_wp2_with fail
 rw [<-hW.out];have hcom:=hcom.out;have hbuf:=hbuf.out;have hblk:=hblk.out
 refine wp_region_rely (l:=[_,_,_,_,_,_,_,_,_,_,_]) (Fr (fun k=>k=cb\/((Value.slice ao s.out.size co)).ownBlock=some k) W) (Below (World.heap W).size W) (akR cb (Value.slice ao s.out.size co)) (fun kG_=>([fun v _=>v=.pointer (some ⟨cb,0,none⟩),fun v _=>v=.pointer (some ⟨cb,0,none⟩),fun v _=>v=.pointer (some ⟨cb,0,none⟩),fun v _=>v=.pointer (some ⟨cb,10,none⟩),fun v _=>v=.slice ao s.out.size co,fun v _=>v=.slice ad n ca,fun v w=>Row W.heap.size w v (Ak l)/\Below W.heap.size W w,fun v w=>AkB W (.slice ao s.out.size co) (s.out++Ak l) v w,fun v _=>v=.pointer (some ⟨cb,0,none⟩),fun v _=>v=.pointer (some ⟨cb,10,none⟩),fun v w=>∃(v1:Value) (w1:World),w=w1.setCell ⟨cb,10,none⟩ v1/\AkB W (.slice ao s.out.size co) (s.out++Ak l) v1 w1]:List (Value->World->Prop)).getD kG_ (fun _ _=>True)) (eats [(7,6),(10,7)]) (isIn [7,10]) (by kernel_rfl) (by kernel_rfl) (by kernel_rfl) ((Fr.refl _ _).drew) ((Below.refl _ _).drew) ?_ ?_ ?_ ?_
 · intro i kG_ u w w' hne hE hg hr
   rcases kG_ with _ | _ | _ | _ | _ | _ | _ | _ | _ | _ | _ | kG_
   · exact hg
   · exact hg
   · exact hg
   · exact hg
   · exact hg
   · exact hg
   · replace hg:(fun (v:Value) (w:World)=>Row W.heap.size w v (Ak l)/\Below W.heap.size W w) u w:=hg
     show (fun (v:Value) (w:World)=>Row W.heap.size w v (Ak l)/\Below W.heap.size W w) u w';dsimp only at hg ⊢;replace hE:exB _ _ i 6=false:=hE;replace hne:6≠i:=hne;unfold akR at hr;split at hr
     all_goals first
       | exact absurd rfl hne
       | exact absurd (hE.symm.trans (by decide +kernel:exB _ _ _ _=true)) (by decide)
       | (subst hr;exact hg)
       | (fail)
   · replace hg:(fun (v:Value) (w:World)=>AkB W (.slice ao s.out.size co) (s.out++Ak l) v w) u w:=hg
     show (fun (v:Value) (w:World)=>AkB W (.slice ao s.out.size co) (s.out++Ak l) v w) u w';dsimp only at hg ⊢;replace hE:exB _ _ i 7=false:=hE;replace hne:7≠i:=hne;unfold akR at hr;split at hr
     all_goals first
       | exact absurd rfl hne
       | exact absurd (hE.symm.trans (by decide +kernel:exB _ _ _ _=true)) (by decide)
       | (subst hr;exact hg)
       | (fail)
   · exact hg
   · exact hg
   · replace hg:(fun (v:Value) (w:World)=>∃(v1:Value) (w1:World),w=w1.setCell ⟨cb,10,none⟩ v1/\AkB W (.slice ao s.out.size co) (s.out++Ak l) v1 w1) u w:=hg
     show (fun (v:Value) (w:World)=>∃(v1:Value) (w1:World),w=w1.setCell ⟨cb,10,none⟩ v1/\AkB W (.slice ao s.out.size co) (s.out++Ak l) v1 w1) u w';dsimp only at hg ⊢;replace hE:exB _ _ i 10=false:=hE;replace hne:10≠i:=hne;unfold akR at hr;split at hr
     all_goals first
       | exact absurd rfl hne
       | exact absurd (hE.symm.trans (by decide +kernel:exB _ _ _ _=true)) (by decide)
       | (subst hr;exact hg)
       | (fail)
   · trivial
 · intro i w w' hF hI hr
   unfold akR at hr;split at hr
   · exact hI.trans (hr.mono hI.size)
   · exact absurd hF (by decide)
   · exact absurd hF (by decide)
   · subst hr;exact hI
 · refine ⟨?_,?_,?_,?_,?_,?_,?_,?_,?_,?_,?_,trivial⟩
   · refine VC.plain rfl fun a wx hf=>?_
     have s0:=hf.old 0 (by first | rfl | kernel_rfl);have q0:=Ac s0;exact gives_value (by simp [go_sem,q0]) ⟨hf.c,rfl,rfl⟩
   · refine VC.plain rfl fun a wx hf=>?_
     have s0:=hf.old 0 (by first | rfl | kernel_rfl);have q0:=Ac s0;exact gives_value (by simp [go_sem,q0]) ⟨hf.c,rfl,rfl⟩
   · refine VC.plain rfl fun a wx hf=>?_
     obtain ⟨v7,g7,s7⟩:=hf.got 1 (by kernel_rfl) (by intro j hj;simp [eats] at hj) rfl rfl;replace s7:=s7.trans (show v7=.pointer (some ⟨cb,0,none⟩) from g7);clear g7;have q7:=Ac s7;exact gives_value (by simp [go_sem,q7]) ⟨hf.c,rfl,rfl⟩
   · refine VC.plain rfl fun a wx hf=>?_
     obtain ⟨v8,g8,s8⟩:=hf.got 2 (by kernel_rfl) (by intro j hj;simp [eats] at hj) rfl rfl;replace s8:=s8.trans (show v8=.pointer (some ⟨cb,0,none⟩) from g8);clear g8;have q8:=Ac s8;exact gives_value (by simp [go_sem,q8]) ⟨hf.c,rfl,rfl⟩
   · refine VC.plain rfl fun a wx hf=>?_
     obtain ⟨v9,g9,s9⟩:=hf.got 3 (by kernel_rfl) (by intro j hj;simp [eats] at hj) rfl rfl;replace s9:=s9.trans (show v9=.pointer (some ⟨cb,10,none⟩) from g9);clear g9;have q9:=Ac s9;have hI:=hf.start (by kernel_rfl);have hc:=Aa hI _ _ c10;exact gives_value (by simp [go_sem,q9,hc]) ⟨hf.c,rfl,rfl⟩
   · refine VC.plain rfl fun a wx hf=>?_
     have s2:=hf.old 2 (by first | rfl | kernel_rfl);have q2:=Ac s2;exact gives_value (by simp [go_sem,q2]) ⟨hf.c,rfl,rfl⟩
   · refine VC.plain rfl fun a wx hf=>?_
     obtain ⟨v11,g11,s11⟩:=hf.got 5 (by kernel_rfl) (by intro j hj;simp [eats] at hj) rfl rfl;replace s11:=s11.trans (show v11=.slice ad n ca from g11);clear g11;have q11:=Ac s11;have hI:=hf.start (by kernel_rfl);exact Ds (f:=53) (args:=#[.slice ad n ca]) (by simp [go_sem,q11]) (hcom wx hI)
   · refine VC.plain rfl fun a wx hf=>?_
     obtain ⟨v10,g10,s10⟩:=hf.got 4 (by kernel_rfl) (by intro j hj;simp [eats] at hj) rfl rfl;replace s10:=s10.trans (show v10=.slice ao s.out.size co from g10);clear g10;have q10:=Ac s10;obtain ⟨v12,g12,s12⟩:=hf.got 6 (by kernel_rfl) (by intro j hj;simp [eats] at hj;omega) rfl rfl;have q12:=Ac s12;replace g12:(fun (v:Value) (w:World)=>Row W.heap.size w v (Ak l)/\Below W.heap.size W w) v12 wx:=g12;dsimp only at g12;have hI:=hf.start (by kernel_rfl);obtain ⟨g1,g2⟩:=g12;obtain ⟨v', w', hrun,h1,h2,h3⟩:=Db (P:=Tryz.prog) 32 eByteB (hbuf.below hI) (row_src g1 (command_pos l)) hn47 (Nat.zero_le _);have hfw:Fr (fun k=>(Value.slice ao s.out.size co).ownBlock=some k) W w' := Fr.trans (Ar hI) h2;exact gives_value (u:=v') (w' := w') (by simp [execOp,resolve,invoke,builtin,s10,s12,hrun]) ⟨hfw.mono (fun _ _ e=>.inr e),h2,h1,hfw,fun k hk=>(h3 k hk).imp id (fun h=>Nat.le_trans hI.size h)⟩
   · refine VC.plain rfl fun a wx hf=>?_
     obtain ⟨v6,g6,s6⟩:=hf.got 0 (by kernel_rfl) (by intro j hj;simp [eats] at hj) rfl rfl;replace s6:=s6.trans (show v6=.pointer (some ⟨cb,0,none⟩) from g6);clear g6;have q6:=Ac s6;exact gives_value (by simp [go_sem,q6]) ⟨hf.c,rfl,rfl⟩
   · refine VC.plain rfl fun a wx hf=>?_
     obtain ⟨v14,g14,s14⟩:=hf.got 8 (by kernel_rfl) (by intro j hj;simp [eats] at hj) rfl rfl;replace s14:=s14.trans (show v14=.pointer (some ⟨cb,0,none⟩) from g14);clear g14;have q14:=Ac s14;exact gives_value (by simp [go_sem,q14]) ⟨hf.c,rfl,rfl⟩
   · refine VC.plain rfl fun a wx hf=>?_
     obtain ⟨v15,g15,s15⟩:=hf.got 9 (by kernel_rfl) (by intro j hj;simp [eats] at hj) rfl rfl;replace s15:=s15.trans (show v15=.pointer (some ⟨cb,10,none⟩) from g15);clear g15;have q15:=Ac s15;obtain ⟨v13,g13,s13⟩:=hf.got 7 (by kernel_rfl) (by intro j hj;simp [eats] at hj;omega) rfl rfl;have q13:=Ac s13;replace g13:(fun (v:Value) (w:World)=>AkB W (.slice ao s.out.size co) (s.out++Ak l) v w) v13 wx:=g13;dsimp only at g13;obtain ⟨h1,h2,h3⟩:=g13;obtain ⟨a9,c9,rfl,_⟩:=h1.shape;have hc:wx.cell? ⟨cb,10,none⟩=some (.slice ao s.out.size co):=h2.cell c10 hcb;exact gives_skip (w' := wx.setCell ⟨cb,10,none⟩ _) (by simp [go_sem,q15,q13,hc,(hblk.fr h2 hcb).frz 10 none]) ⟨(h2.mono (fun _ _ e=>.inr e)).setCell (fun _=>.inl rfl) _,((Fr.refl (fun k=>k=cb) wx).setCell (fun _=>rfl) _:Fr (fun k=>k=cb) wx _),_,wx,rfl,h1,h2,h3⟩
 · intro vs w9 _ hG
   obtain ⟨v1,w1,e1,hak⟩:=hG 10 (by decide) (by decide);clear hG hcom hbuf hblk c10 hcb;rw [<-eo.out] at hak;obtain ⟨ow1,hC1,hP1,hw1⟩:=cli_out hC0.out hP0.out hak;rw [<-e1] at hC1 hP1 hw1;have hbox1:w9.rangeAt w0.heap.size 0 [.int .i64 tk,.int .i64 ti]:=fun j u hj=>hw1.fr.cell (hbox.out j u hj) (fun e=>by
     have e2:1<=ow w0.heap.size/\ow w0.heap.size<=8:=e;rw [hz.out] at e2;omega)
   have hbl1:w0.heap.size<w9.heap.size:=Nat.lt_of_lt_of_le hbl hw1.fr.size;have hww:=hw0.out.trans hw1;have hsa:s.asked.length=({ s with out:=s.out++Ak l }:CS).asked.length:=rfl
   clear hak e1 hC0 hP0 hw1 hbox hw0 eo;obtain ⟨U,hU⟩:∃U,U=w9:=⟨_,rfl⟩;rw [<-hU] at hC1 hP1 hbox1 hbl1 hww ⊢;obtain ⟨aa,na,ea,_⟩:=hP1.asked.shape;have c11:=hC1.c11;have hbuf:=hP1.asked;have hcb:¬({ p with vo:=v1 }:CAt).va.ownBlock=some cb:=fun e=>by have:=hP1.ova cb e;rw [hP1.ocb] at this;omega
   have hblk:=hP1.blk;rw [ea] at c11 hbuf hcb;have hn9:s.asked.length+1<=1000000000:=by omega
   replace hP1:=Hd hP1;replace hC1:=Hd hC1;replace hbox1:=Hd hbox1;replace hbuf:=Hd hbuf;replace hblk:=Hd hblk;replace ea:=Hd ea;replace hww:=Hd hww;replace hU:=Hd hU;simp only [Al,Act.put,List.setIfInBounds_toArray,List.set_cons_zero,List.set_cons_succ];go_wp2_with fail
   have hbox:=hbox1.out;have hbuf:=hbuf.out;have hblk:=hblk.out
   refine wp_region_rely (l:=[_,_,_,_,_,_,_,_,_,_,_]) (Fr (fun k=>k=cb\/((Value.slice aa s.asked.length na)).ownBlock=some k) U) (Below (World.heap U).size U) (akR cb (Value.slice aa s.asked.length na)) (fun kG_=>([fun v _=>v=.pointer (some ⟨cb,0,none⟩),fun v _=>v=.pointer (some ⟨cb,0,none⟩),fun v _=>v=.pointer (some ⟨cb,0,none⟩),fun v _=>v=.pointer (some ⟨cb,11,none⟩),fun v _=>v=.slice aa s.asked.length na,fun v _=>v=.agg #[.int .i64 tk,.int .i64 ti],fun v w=>∃b,v=.slice (some ⟨b,0,none⟩) 1 1/\w.rangeAt b 0 [.int .i64 tk,.int .i64 ti]/\Below U.heap.size U w,fun v w=>AkK 2 U (.slice aa s.asked.length na) (s.asked.length+1) (Bd s.asked++[.int .i64 tk,.int .i64 ti]) v w,fun v _=>v=.pointer (some ⟨cb,0,none⟩),fun v _=>v=.pointer (some ⟨cb,11,none⟩),fun v w=>∃(v1:Value) (w1:World),w=w1.setCell ⟨cb,11,none⟩ v1/\AkK 2 U (.slice aa s.asked.length na) (s.asked.length+1) (Bd s.asked++[.int .i64 tk,.int .i64 ti]) v1 w1]:List (Value->World->Prop)).getD kG_ (fun _ _=>True)) (eats [(7,6),(10,7)]) (isIn [7,10]) (by kernel_rfl) (by kernel_rfl) (by kernel_rfl) ((Fr.refl _ _).drew) ((Below.refl _ _).drew) ?_ ?_ ?_ ?_
   · intro i kG_ u w w' hne hE hg hr
     rcases kG_ with _ | _ | _ | _ | _ | _ | _ | _ | _ | _ | _ | kG_
     · exact hg
     · exact hg
     · exact hg
     · exact hg
     · exact hg
     · exact hg
     · replace hg:(fun (v:Value) (w:World)=>∃b,v=.slice (some ⟨b,0,none⟩) 1 1/\w.rangeAt b 0 [.int .i64 tk,.int .i64 ti]/\Below U.heap.size U w) u w:=hg
       show (fun (v:Value) (w:World)=>∃b,v=.slice (some ⟨b,0,none⟩) 1 1/\w.rangeAt b 0 [.int .i64 tk,.int .i64 ti]/\Below U.heap.size U w) u w';dsimp only at hg ⊢;replace hE:exB _ _ i 6=false:=hE;replace hne:6≠i:=hne;unfold akR at hr;split at hr
       all_goals first
         | exact absurd rfl hne
         | exact absurd (hE.symm.trans (by decide +kernel:exB _ _ _ _=true)) (by decide)
         | (subst hr;exact hg)
         | (fail)
     · replace hg:(fun (v:Value) (w:World)=>AkK 2 U (.slice aa s.asked.length na) (s.asked.length+1) (Bd s.asked++[.int .i64 tk,.int .i64 ti]) v w) u w:=hg
       show (fun (v:Value) (w:World)=>AkK 2 U (.slice aa s.asked.length na) (s.asked.length+1) (Bd s.asked++[.int .i64 tk,.int .i64 ti]) v w) u w';dsimp only at hg ⊢;replace hE:exB _ _ i 7=false:=hE;replace hne:7≠i:=hne;unfold akR at hr;split at hr
       all_goals first
         | exact absurd rfl hne
         | exact absurd (hE.symm.trans (by decide +kernel:exB _ _ _ _=true)) (by decide)
         | (subst hr;exact hg)
         | (fail)
     · exact hg
     · exact hg
     · replace hg:(fun (v:Value) (w:World)=>∃(v1:Value) (w1:World),w=w1.setCell ⟨cb,11,none⟩ v1/\AkK 2 U (.slice aa s.asked.length na) (s.asked.length+1) (Bd s.asked++[.int .i64 tk,.int .i64 ti]) v1 w1) u w:=hg
       show (fun (v:Value) (w:World)=>∃(v1:Value) (w1:World),w=w1.setCell ⟨cb,11,none⟩ v1/\AkK 2 U (.slice aa s.asked.length na) (s.asked.length+1) (Bd s.asked++[.int .i64 tk,.int .i64 ti]) v1 w1) u w';dsimp only at hg ⊢;replace hE:exB _ _ i 10=false:=hE;replace hne:10≠i:=hne;unfold akR at hr;split at hr
       all_goals first
         | exact absurd rfl hne
         | exact absurd (hE.symm.trans (by decide +kernel:exB _ _ _ _=true)) (by decide)
         | (subst hr;exact hg)
         | (fail)
     · trivial
   · intro i w w' hF hI hr
     unfold akR at hr;split at hr
     · exact hI.trans (hr.mono hI.size)
     · exact absurd hF (by decide)
     · exact absurd hF (by decide)
     · subst hr;exact hI
   · refine ⟨?_,?_,?_,?_,?_,?_,?_,?_,?_,?_,?_,trivial⟩
     · refine VC.plain rfl fun a wx hf=>?_
       have s0:=hf.old 0 (by first | rfl | kernel_rfl);have q0:=Ac s0;exact gives_value (by simp [go_sem,q0]) ⟨hf.c,rfl,rfl⟩
     · refine VC.plain rfl fun a wx hf=>?_
       have s0:=hf.old 0 (by first | rfl | kernel_rfl);have q0:=Ac s0;exact gives_value (by simp [go_sem,q0]) ⟨hf.c,rfl,rfl⟩
     · refine VC.plain rfl fun a wx hf=>?_
       obtain ⟨v17,g17,s17⟩:=hf.got 1 (by kernel_rfl) (by intro j hj;simp [eats] at hj) rfl rfl;replace s17:=s17.trans (show v17=.pointer (some ⟨cb,0,none⟩) from g17);clear g17;have q17:=Ac s17;exact gives_value (by simp [go_sem,q17]) ⟨hf.c,rfl,rfl⟩
     · refine VC.plain rfl fun a wx hf=>?_
       obtain ⟨v18,g18,s18⟩:=hf.got 2 (by kernel_rfl) (by intro j hj;simp [eats] at hj) rfl rfl;replace s18:=s18.trans (show v18=.pointer (some ⟨cb,0,none⟩) from g18);clear g18;have q18:=Ac s18;exact gives_value (by simp [go_sem,q18]) ⟨hf.c,rfl,rfl⟩
     · refine VC.plain rfl fun a wx hf=>?_
       obtain ⟨v19,g19,s19⟩:=hf.got 3 (by kernel_rfl) (by intro j hj;simp [eats] at hj) rfl rfl;replace s19:=s19.trans (show v19=.pointer (some ⟨cb,11,none⟩) from g19);clear g19;have q19:=Ac s19;have hI:=hf.start (by kernel_rfl);have hc:=Aa hI _ _ c11;exact gives_value (by simp [go_sem,q19,hc]) ⟨hf.c,rfl,rfl⟩
     · refine VC.plain rfl fun a wx hf=>?_
       have s4:=hf.old 4 (by first | rfl | kernel_rfl);have q4:=Ac s4;have hI:=hf.start (by kernel_rfl);exact A0 rfl s4 (fun j y hj=>Aa hI _ _ (hbox j y hj)) Tryz.underlying71 rfl Dk ⟨hf.c,rfl,rfl⟩
     · refine VC.plain rfl fun a wx hf=>?_
       obtain ⟨v21,g21,s21⟩:=hf.got 5 (by kernel_rfl) (by intro j hj;simp [eats] at hj) rfl rfl;replace s21:=s21.trans (show v21=.agg #[.int .i64 tk,.int .i64 ti] from g21);clear g21;have q21:=Ac s21;have hI:=hf.start (by kernel_rfl);have hal:=(Below.refl wx.heap.size wx).alloc (Nat.le_refl _) (.cells #[.int .i64 tk,.int .i64 ti] 71);have hfw:=hI.trans (hal.mono hI.size);exact gives_value (u:=.slice (some ⟨wx.heap.size,0,none⟩) 1 1) (w' := wx.alloc (.cells #[.int .i64 tk,.int .i64 ti] 71)) (by simp [go_sem,q21,Tryz.underlying66]) ⟨Ar hfw,hal,wx.heap.size,rfl,fun j u hj=>(by rw [Nat.zero_add,World.cell?_alloc_new];simpa using hj),hfw⟩
     · refine VC.plain rfl fun a wx hf=>?_
       obtain ⟨v20,g20,s20⟩:=hf.got 4 (by kernel_rfl) (by intro j hj;simp [eats] at hj) rfl rfl;replace s20:=s20.trans (show v20=.slice aa s.asked.length na from g20);clear g20;have q20:=Ac s20;obtain ⟨v22,g22,s22⟩:=hf.got 6 (by kernel_rfl) (by intro j hj;simp [eats] at hj;omega) rfl rfl;have q22:=Ac s22;replace g22:(fun (v:Value) (w:World)=>∃b,v=.slice (some ⟨b,0,none⟩) 1 1/\w.rangeAt b 0 [.int .i64 tk,.int .i64 ti]/\Below U.heap.size U w) v22 wx:=g22;dsimp only at g22;have hI:=hf.start (by kernel_rfl);obtain ⟨b,rfl,g1,g2⟩:=g22;obtain ⟨v', w', hrun,h1,h2,h3⟩:=A8 (P:=Tryz.prog) 66 eAsk (hbuf.below hI) (Src.ofSlice _ Tryz.underlying66 ⟨b,0,none⟩ 1 1 [.int .i64 tk,.int .i64 ti] rfl (fun j u hj=>by rw [Cp];exact g1 j u hj) (by simp [Value.oneCell'])) rfl (Nat.zero_le _) hn9;have hfw:Fr (fun k=>(Value.slice aa s.asked.length na).ownBlock=some k) U w' := Fr.trans (Ar hI) h2
       exact gives_value (u:=v') (w' := w') (by simp [execOp,resolve,invoke,builtin,s20,s22,hrun]) ⟨hfw.mono (fun _ _ e=>.inr e),h2,h1,hfw,fun k hk=>(h3 k hk).imp id (fun h=>Nat.le_trans hI.size h)⟩
     · refine VC.plain rfl fun a wx hf=>?_
       obtain ⟨v16,g16,s16⟩:=hf.got 0 (by kernel_rfl) (by intro j hj;simp [eats] at hj) rfl rfl;replace s16:=s16.trans (show v16=.pointer (some ⟨cb,0,none⟩) from g16);clear g16;have q16:=Ac s16;exact gives_value (by simp [go_sem,q16]) ⟨hf.c,rfl,rfl⟩
     · refine VC.plain rfl fun a wx hf=>?_
       obtain ⟨v24,g24,s24⟩:=hf.got 8 (by kernel_rfl) (by intro j hj;simp [eats] at hj) rfl rfl;replace s24:=s24.trans (show v24=.pointer (some ⟨cb,0,none⟩) from g24);clear g24;have q24:=Ac s24;exact gives_value (by simp [go_sem,q24]) ⟨hf.c,rfl,rfl⟩
     · refine VC.plain rfl fun a wx hf=>?_
       obtain ⟨v25,g25,s25⟩:=hf.got 9 (by kernel_rfl) (by intro j hj;simp [eats] at hj) rfl rfl;replace s25:=s25.trans (show v25=.pointer (some ⟨cb,11,none⟩) from g25);clear g25;have q25:=Ac s25;obtain ⟨v23,g23,s23⟩:=hf.got 7 (by kernel_rfl) (by intro j hj;simp [eats] at hj;omega) rfl rfl;have q23:=Ac s23;replace g23:(fun (v:Value) (w:World)=>AkK 2 U (.slice aa s.asked.length na) (s.asked.length+1) (Bd s.asked++[.int .i64 tk,.int .i64 ti]) v w) v23 wx:=g23;dsimp only at g23;obtain ⟨h1,h2,h3⟩:=g23;obtain ⟨a9,c9,rfl,_⟩:=h1.shape;have hc:wx.cell? ⟨cb,11,none⟩=some (.slice aa s.asked.length na):=h2.cell c11 hcb;exact gives_skip (w' := wx.setCell ⟨cb,11,none⟩ _) (by simp [go_sem,q25,q23,hc,(hblk.fr h2 hcb).frz 11 none]) ⟨(h2.mono (fun _ _ e=>.inr e)).setCell (fun _=>.inl rfl) _,((Fr.refl (fun k=>k=cb) wx).setCell (fun _=>rfl) _:Fr (fun k=>k=cb) wx _),_,wx,rfl,h1,h2,h3⟩
   · intro vs w8 _ hG
     obtain ⟨v2,w2,e2,hak⟩:=hG 10 (by decide) (by decide);clear hG hbuf hblk c11 hcb hbox;have hak2:AkK 2 U ({ p with vo:=v1 }:CAt).va (s.asked++[(tk,ti)]).length (Bd (s.asked++[(tk,ti)])) v2 w2:=by
       rw [ea.out,askedC_snoc,List.length_append];exact hak
     obtain ⟨ow2,hC2,hP2,hw2⟩:=cli_asked hC1.out hP1.out hak2;rw [<-e2] at hC2 hP2 hw2;have hfin:Cli ow2 w8 cb (s.ask tk ti l):=⟨_,_,hC2,hP2,hq⟩;have hw:=Hd (hww.out.trans hw2);clear hak hak2 hC2 hP2 hw2 e2 hC1 hP1 hww ea;replace hfin:=Hd hfin;simp only [Al,Act.put,List.setIfInBounds_toArray,List.set_cons_zero,List.set_cons_succ];go_wp2_with fail
     go_end0
     exact ⟨ow2,rfl,hfin.out,hw.out⟩
end R2
end Go.Proofs.YtfaihaoajdcjbaaGreatDoor
