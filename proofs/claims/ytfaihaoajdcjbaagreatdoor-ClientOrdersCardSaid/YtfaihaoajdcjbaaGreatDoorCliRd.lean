/- The client: a key is read. -/
import Derived.Test.YtfaihaoajdcjbaaGreatDoorCliFd
set_option linter.all false
namespace Go.Proofs.YtfaihaoajdcjbaaGreatDoor
open Go.RowKit Go.Joins
def rrR (cb:Nat) (vr:Value) (i:Nat) (w w' : World):Prop:=match i with
 | 8=>Below w.heap.size w w'
 | 9=>Fr (fun k=>vr.ownBlock=some k) w w'
 | 12=>Fr (fun k=>k=cb) w w'
 | _=>w' = w
abbrev tGet:ByteArray:=⟨#[71,69,84]⟩
theorem Fq {w:World} {cb:Nat} {p:CAt} {s:CS} (hC:Cells w cb p s) (hb:s.md.bcast=false) (k:ByteArray):Calls Tryz.prog 39 #[P0 cb,.string k] w fun e w' => e=.returned (.bool true)/\Below w.heap.size w w' := by
 have hal:=(Below.refl w.heap.size w).alloc (Nat.le_refl _) (.cells #[.string k] 9);have c2:=(hC.below hal).c2;rw [hb] at c2;clear hC
 go_enter Tryz.func39,Tryz.ntmps39
 go_wp2_with fail
 go_ret;exact ⟨rfl,hal⟩
def CS.readY (s:CS) (k:ByteArray) (v:V):CS:={ s with last:=s.last+1,near:=s.near.get k,results:=s.results++[(((s.last+1:Nat):Int),v,true)] }
def CS.readN (s:CS) (k:ByteArray) (b:Bool):CS:=({ s with last:=s.last+1,near:=if b=true then s.near.begin k else s.near }:CS).ask ((s.last+1:Nat):Int) (if b=true then s.near.last+1 else 0) [tGet,k]
namespace R2
set_option maxRecDepth 100000 in
set_option maxHeartbeats 6400000 in
theorem cread_near {ow:Nat->Nat} {w0:World} {cb:Nat} {s8:CS} {k:ByteArray} {x:V} (h:Cli ow w0 cb s8) (ho:s8.over=false) (hl:s8.last<=1000000) (hr:s8.results.length<=1000000) (hk:A1 s8.near.es k=some x) :
   Calls Tryz.prog 11 #[P0 cb,.string k] w0 fun e w' => e=.returned (.tuple #[.int .i64 ((s8.last+1:Nat):Int),.int .i64 0])/\∃ow', Cli ow' w' cb (s8.readY k x)/\CW ow w0 ow' w' := by
 obtain ⟨p0,rs0,hC0,hP0,hq0⟩:=h.out;have c14:=hC0.c14;rw [ho] at c14;obtain ⟨lst,hlst⟩:∃lst,lst=s8.last+1:=⟨_,rfl⟩;clear hC0 hP0 hq0;replace h:=Hd h;replace hlst:=Hd hlst
 go_enter Tryz.func11,Tryz.ntmps11
 go_wp2_with fail
 refine (Gf h.out (by omega)).mono ?_;rintro e w1 ⟨o1,rfl,hc1,hw1⟩;rw [<-hlst.out];obtain ⟨p1,rs1,hC1,hP1,hq1⟩:=hc1.out;have d0:=hC1.c0;clear c14 h hc1;replace hC1:=Hd hC1;replace hP1:=Hd hP1;replace hw1:=Hd hw1;go_wp2_with fail
 refine (Av.near_get hP1.out.near k).mono ?_;rintro e w2 ⟨cs,fp', rfl,hrv,hN,hW⟩;obtain ⟨hP2,hw2⟩:=hP1.out.setNear hN hW;have hC2:=(hC1.out.fr hW.1 (fun e=>by have h1:=hP1.out.ofp cb e;rw [hP1.out.ocb] at h1;exact absurd h1 (by decide))).near fp' (s8.tok.near.get k);have hw02:=hw1.out.trans hw2;obtain ⟨O2,hO2⟩:∃O2,O2=owN o1 w1.heap.size fp' 1:=⟨_,rfl⟩;rw [<-hO2] at hP2 hw02;clear hW hN hw2 hO2 hP1 hC1 hw1 d0;have hkt:A1 s8.tok.near.es k=some x:=hk;rw [hkt] at hrv ⊢;obtain ⟨ad,cap,css,he,_⟩:=hrv.out;have he6:cs.toArray=#[Value.int .i64 x.kind,.string x.text,.int .i64 x.int,.float .f64 x.real,.bool x.flag,.slice ad x.list.length cap]:=by rw [he];rfl
 rw [he6];clear he he6;clear hrv hk hkt;replace hC2:=Hd hC2;replace hP2:=Hd hP2;replace hw02:=Hd hw02;simp only [Option.isSome_some];have hth:=Hd (Bj w2 40);have hnv:=Hd (Cw w2 40 [.int .i64 x.kind,.string x.text,.int .i64 x.int,.float .f64 x.real,.bool x.flag,.slice ad x.list.length cap] rfl);have tok1:True:=trivial;go_upto_region 5 with (have _t:=tok1;refine wpList_store_mid rfl 40 _ _ rfl w2.heap.size 0 _ rfl rfl hth.out Ai (one6 _ _ _ _ _ _ _ _) ?_;clear tok1 _t)
 generalize (w2.alloc (.cells #[Value.int .i64 0,.string ⟨#[]⟩,.int .i64 0,.float .f64 0,.bool false,.slice none 0 0] 40)).setCells w2.heap.size 0 [Value.int .i64 x.kind,.string x.text,.int .i64 x.int,.float .f64 x.real,.bool x.flag,.slice ad x.list.length cap]=w3 at hnv ⊢;obtain ⟨hb3,hr3,_⟩:=hnv.out;obtain ⟨G3,hGG3⟩:∃G,G=w2.heap.size:=⟨_,rfl⟩;rw [<-hGG3] at hr3 ⊢;replace hGG3:=Hd hGG3;clear hnv hth;obtain ⟨hPU,hw3⟩:=hP2.out.grow hb3;have hCU:=hC2.out.below hb3;have hwU:=hw02.out.trans hw3;have hbox:=hr3;obtain ⟨s9,hs9⟩:∃s9,s9=({ s8.tok with near:=s8.tok.near.get k }:CS):=⟨_,rfl⟩
 obtain ⟨pu,hpu⟩:∃pu,pu=({ p1 with fp:=fp' }:CAt):=⟨_,rfl⟩
 rw [<-hpu,<-hs9] at hPU hCU;have hqu:pu.qm=0/\pu.qs=0:=by rw [hpu];exact hq1
 have hrs:s9.results.length<=1000000:=by rw [hs9];exact hr
 have hfn:s8.readY k x={ s9 with results:=s9.results++[((lst:Int),x,true)] }:=by rw [hs9,hlst.out];rfl
 clear hs9 hpu hP2 hC2 hw02 hw3 hb3 hr3;obtain ⟨U,hU⟩:∃U,U=w3:=⟨_,rfl⟩;rw [<-hU] at hPU hCU hbox hwU ⊢;clear hU;obtain ⟨s,hs⟩:∃s,s=s9:=⟨_,rfl⟩;rw [<-hs] at hPU hCU hfn hrs;clear hs;obtain ⟨ar,cr,er,_⟩:=hPU.results.shape;have c12:=hCU.c12;have hbuf:=hPU.results;have hcb:¬pu.vr.ownBlock=some cb:=fun e=>by have h1:=hPU.ovr cb e;rw [hPU.ocb] at h1;exact absurd h1 (by decide)
 have hblk:=hPU.blk;have hrl:=hPU.rlen;rw [er] at c12 hbuf hcb;have hn9:s.results.length+1<=1000000000:=by omega
 obtain ⟨tk,htk⟩:∃tk:Int,tk=(lst:Int):=⟨_,rfl⟩;rw [<-htk] at hfn ⊢;obtain ⟨rs,hrs9⟩:∃rs,rs=rs1:=⟨_,rfl⟩;rw [<-hrs9] at hPU hbuf hrl;clear hrs9;replace hCU:=Hd hCU;replace hPU:=Hd hPU;replace hbox:=Hd hbox;replace hbuf:=Hd hbuf;replace hblk:=Hd hblk;replace er:=Hd er;replace hfn:=Hd hfn;replace hwU:=Hd hwU;replace htk:=Hd htk;go_wp2_with fail
 have hbox:=hbox.out;have hbuf:=hbuf.out;have hblk:=hblk.out
 refine wp_region_rely (l:=[_,_,_,_,_,_,_,_,_,_,_,_,_]) (Fr (fun k=>k=cb\/(Value.slice ar s.results.length cr).ownBlock=some k) U) (Below U.heap.size U) (rrR cb (Value.slice ar s.results.length cr)) (fun kG_=>([fun v _=>v=.pointer (some ⟨cb,0,none⟩),fun v _=>v=.pointer (some ⟨cb,0,none⟩),fun v _=>v=.pointer (some ⟨cb,0,none⟩),fun v _=>v=.pointer (some ⟨cb,12,none⟩),fun v _=>v=.slice ar s.results.length cr,fun v _=>v=.int .i64 tk,fun v _=>v=.agg #[.int .i64 x.kind,.string x.text,.int .i64 x.int,.float .f64 x.real,.bool x.flag,.slice ad x.list.length cap],fun v _=>v=.agg #[.int .i64 tk,.int .i64 x.kind,.string x.text,.int .i64 x.int,.float .f64 x.real,.bool x.flag,.slice ad x.list.length cap,.bool true],fun v w=>∃b,v=.slice (some ⟨b,0,none⟩) 1 1/\w.rangeAt b 0 [.int .i64 tk,.int .i64 x.kind,.string x.text,.int .i64 x.int,.float .f64 x.real,.bool x.flag,.slice ad x.list.length cap,.bool true]/\Below U.heap.size U w,fun v w=>AkK 8 U (.slice ar s.results.length cr) (s.results.length+1) (resL s.results rs++[.int .i64 tk,.int .i64 x.kind,.string x.text,.int .i64 x.int,.float .f64 x.real,.bool x.flag,.slice ad x.list.length cap,.bool true]) v w,fun v _=>v=.pointer (some ⟨cb,0,none⟩),fun v _=>v=.pointer (some ⟨cb,12,none⟩),fun v w=>∃(v1:Value) (w1:World),w=w1.setCell ⟨cb,12,none⟩ v1/\AkK 8 U (.slice ar s.results.length cr) (s.results.length+1) (resL s.results rs++[.int .i64 tk,.int .i64 x.kind,.string x.text,.int .i64 x.int,.float .f64 x.real,.bool x.flag,.slice ad x.list.length cap,.bool true]) v1 w1]:List (Value->World->Prop)).getD kG_ (fun _ _=>True)) (eats [(9,8),(12,9)]) (isIn [9,12]) (by kernel_rfl) (by kernel_rfl) (by kernel_rfl) ((Fr.refl _ _).drew) ((Below.refl _ _).drew) ?_ ?_ ?_ ?_
 · intro i kG_ u w w' hne hE hg hr
   rcases kG_ with _ | _ | _ | _ | _ | _ | _ | _ | _ | _ | _ | _ | _ | kG_
   · exact hg
   · exact hg
   · exact hg
   · exact hg
   · exact hg
   · exact hg
   · exact hg
   · exact hg
   · replace hg:(fun (v:Value) (w:World)=>∃b,v=.slice (some ⟨b,0,none⟩) 1 1/\w.rangeAt b 0 [.int .i64 tk,.int .i64 x.kind,.string x.text,.int .i64 x.int,.float .f64 x.real,.bool x.flag,.slice ad x.list.length cap,.bool true]/\Below U.heap.size U w) u w:=hg
     show (fun (v:Value) (w:World)=>∃b,v=.slice (some ⟨b,0,none⟩) 1 1/\w.rangeAt b 0 [.int .i64 tk,.int .i64 x.kind,.string x.text,.int .i64 x.int,.float .f64 x.real,.bool x.flag,.slice ad x.list.length cap,.bool true]/\Below U.heap.size U w) u w';dsimp only at hg ⊢;replace hE:exB _ _ i 8=false:=hE;replace hne:8≠i:=hne;unfold rrR at hr;split at hr
     all_goals first
       | exact absurd rfl hne
       | exact absurd (hE.symm.trans (by decide +kernel:exB _ _ _ _=true)) (by decide)
       | (subst hr;exact hg)
       | (fail)
   · replace hg:(fun (v:Value) (w:World)=>AkK 8 U (.slice ar s.results.length cr) (s.results.length+1) (resL s.results rs++[.int .i64 tk,.int .i64 x.kind,.string x.text,.int .i64 x.int,.float .f64 x.real,.bool x.flag,.slice ad x.list.length cap,.bool true]) v w) u w:=hg
     show (fun (v:Value) (w:World)=>AkK 8 U (.slice ar s.results.length cr) (s.results.length+1) (resL s.results rs++[.int .i64 tk,.int .i64 x.kind,.string x.text,.int .i64 x.int,.float .f64 x.real,.bool x.flag,.slice ad x.list.length cap,.bool true]) v w) u w';dsimp only at hg ⊢;replace hE:exB _ _ i 9=false:=hE;replace hne:9≠i:=hne;unfold rrR at hr;split at hr
     all_goals first
       | exact absurd rfl hne
       | exact absurd (hE.symm.trans (by decide +kernel:exB _ _ _ _=true)) (by decide)
       | (subst hr;exact hg)
       | (fail)
   · exact hg
   · exact hg
   · replace hg:(fun (v:Value) (w:World)=>∃(v1:Value) (w1:World),w=w1.setCell ⟨cb,12,none⟩ v1/\AkK 8 U (.slice ar s.results.length cr) (s.results.length+1) (resL s.results rs++[.int .i64 tk,.int .i64 x.kind,.string x.text,.int .i64 x.int,.float .f64 x.real,.bool x.flag,.slice ad x.list.length cap,.bool true]) v1 w1) u w:=hg
     show (fun (v:Value) (w:World)=>∃(v1:Value) (w1:World),w=w1.setCell ⟨cb,12,none⟩ v1/\AkK 8 U (.slice ar s.results.length cr) (s.results.length+1) (resL s.results rs++[.int .i64 tk,.int .i64 x.kind,.string x.text,.int .i64 x.int,.float .f64 x.real,.bool x.flag,.slice ad x.list.length cap,.bool true]) v1 w1) u w';dsimp only at hg ⊢;replace hE:exB _ _ i 12=false:=hE;replace hne:12≠i:=hne;unfold rrR at hr;split at hr
     all_goals first
       | exact absurd rfl hne
       | exact absurd (hE.symm.trans (by decide +kernel:exB _ _ _ _=true)) (by decide)
       | (subst hr;exact hg)
       | (fail)
   · trivial
 · intro i w w' hF hI hr
   unfold rrR at hr;split at hr
   · exact hI.trans (hr.mono hI.size)
   · exact absurd hF (by decide)
   · exact absurd hF (by decide)
   · subst hr;exact hI
 · refine ⟨?_,?_,?_,?_,?_,?_,?_,?_,?_,?_,?_,?_,?_,trivial⟩
   · refine VC.plain rfl fun a wx hf=>?_
     have s0:=hf.old 0 (by first | rfl | kernel_rfl);have q0:=Ac s0;exact gives_value (by simp [go_sem,q0]) ⟨hf.c,rfl,rfl⟩
   · refine VC.plain rfl fun a wx hf=>?_
     have s0:=hf.old 0 (by first | rfl | kernel_rfl);have q0:=Ac s0;exact gives_value (by simp [go_sem,q0]) ⟨hf.c,rfl,rfl⟩
   · refine VC.plain rfl fun a wx hf=>?_
     obtain ⟨v27,g27,s27⟩:=hf.got 1 (by kernel_rfl) (by intro j hj;simp [eats] at hj) rfl rfl;replace s27:=s27.trans (show v27=.pointer (some ⟨cb,0,none⟩) from g27);clear g27;have q27:=Ac s27;exact gives_value (by simp [go_sem,q27]) ⟨hf.c,rfl,rfl⟩
   · refine VC.plain rfl fun a wx hf=>?_
     obtain ⟨v28,g28,s28⟩:=hf.got 2 (by kernel_rfl) (by intro j hj;simp [eats] at hj) rfl rfl;replace s28:=s28.trans (show v28=.pointer (some ⟨cb,0,none⟩) from g28);clear g28;have q28:=Ac s28;exact gives_value (by simp [go_sem,q28]) ⟨hf.c,rfl,rfl⟩
   · refine VC.plain rfl fun a wx hf=>?_
     obtain ⟨v29,g29,s29⟩:=hf.got 3 (by kernel_rfl) (by intro j hj;simp [eats] at hj) rfl rfl;replace s29:=s29.trans (show v29=.pointer (some ⟨cb,12,none⟩) from g29);clear g29;have q29:=Ac s29;have hI:=hf.start (by kernel_rfl);have hc:=Aa hI _ _ c12;exact gives_value (by simp [go_sem,q29,hc]) ⟨hf.c,rfl,rfl⟩
   · refine VC.plain rfl fun a wx hf=>?_
     have s6:=hf.old 6 (by first | rfl | kernel_rfl);have q6:=Ac s6;exact gives_value (by simp [go_sem,q6]) ⟨hf.c,rfl,rfl⟩
   · refine VC.plain rfl fun a wx hf=>?_
     have s7:=hf.old 7 (by first | rfl | kernel_rfl);have q7:=Ac s7;have hI:=hf.start (by kernel_rfl);exact A0 rfl s7 (fun j y hj=>Aa hI _ _ (hbox j y hj)) Tryz.underlying40 rfl Ai ⟨hf.c,rfl,rfl⟩
   · refine VC.plain rfl fun a wx hf=>?_
     obtain ⟨v31,g31,s31⟩:=hf.got 5 (by kernel_rfl) (by intro j hj;simp [eats] at hj) rfl rfl;replace s31:=s31.trans (show v31=.int .i64 tk from g31);clear g31;have q31:=Ac s31;obtain ⟨v32,g32,s32⟩:=hf.got 6 (by kernel_rfl) (by intro j hj;simp [eats] at hj) rfl rfl;replace s32:=s32.trans (show v32=.agg #[.int .i64 x.kind,.string x.text,.int .i64 x.int,.float .f64 x.real,.bool x.flag,.slice ad x.list.length cap] from g32);clear g32;have q32:=Ac s32;exact gives_value (by simp [go_sem,q31,q32]) ⟨hf.c,rfl,rfl⟩
   · refine VC.plain rfl fun a wx hf=>?_
     obtain ⟨v33,g33,s33⟩:=hf.got 7 (by kernel_rfl) (by intro j hj;simp [eats] at hj) rfl rfl;replace s33:=s33.trans (show v33=.agg #[.int .i64 tk,.int .i64 x.kind,.string x.text,.int .i64 x.int,.float .f64 x.real,.bool x.flag,.slice ad x.list.length cap,.bool true] from g33);clear g33;have q33:=Ac s33;have hI:=hf.start (by kernel_rfl);have hal:=(Below.refl wx.heap.size wx).alloc (Nat.le_refl _) (.cells #[.int .i64 tk,.int .i64 x.kind,.string x.text,.int .i64 x.int,.float .f64 x.real,.bool x.flag,.slice ad x.list.length cap,.bool true] 42);have hfw:=hI.trans (hal.mono hI.size)
     exact gives_value (u:=.slice (some ⟨wx.heap.size,0,none⟩) 1 1) (w' := wx.alloc (.cells #[.int .i64 tk,.int .i64 x.kind,.string x.text,.int .i64 x.int,.float .f64 x.real,.bool x.flag,.slice ad x.list.length cap,.bool true] 42)) (by simp [go_sem,q33,Tryz.underlying35]) ⟨Ar hfw,hal,wx.heap.size,rfl,fun j u hj=>(by rw [Nat.zero_add,World.cell?_alloc_new];simpa using hj),hfw⟩
   · refine VC.plain rfl fun a wx hf=>?_
     obtain ⟨v30,g30,s30⟩:=hf.got 4 (by kernel_rfl) (by intro j hj;simp [eats] at hj) rfl rfl;replace s30:=s30.trans (show v30=.slice ar s.results.length cr from g30);clear g30;have q30:=Ac s30;obtain ⟨v34,g34,s34⟩:=hf.got 8 (by kernel_rfl) (by intro j hj;simp [eats] at hj;omega) rfl rfl;have q34:=Ac s34;replace g34:(fun (v:Value) (w:World)=>∃b,v=.slice (some ⟨b,0,none⟩) 1 1/\w.rangeAt b 0 [.int .i64 tk,.int .i64 x.kind,.string x.text,.int .i64 x.int,.float .f64 x.real,.bool x.flag,.slice ad x.list.length cap,.bool true]/\Below U.heap.size U w) v34 wx:=g34;dsimp only at g34;have hI:=hf.start (by kernel_rfl);obtain ⟨b,rfl,g1,g2⟩:=g34
     obtain ⟨v', w', hrun,h1,h2,h3⟩:=A8 (P:=Tryz.prog) 35 eRes (hbuf.below hI) (Src.ofSlice _ Tryz.underlying35 ⟨b,0,none⟩ 1 1 [.int .i64 tk,.int .i64 x.kind,.string x.text,.int .i64 x.int,.float .f64 x.real,.bool x.flag,.slice ad x.list.length cap,.bool true] rfl (fun j u hj=>by rw [Cp];exact g1 j u hj) (by simp [Value.oneCell'])) rfl (Nat.zero_le _) hn9;have hfw:Fr (fun k=>(Value.slice ar s.results.length cr).ownBlock=some k) U w' := Fr.trans (Ar hI) h2;exact gives_value (u:=v') (w' := w') (by simp [execOp,resolve,invoke,builtin,s30,s34,hrun]) ⟨hfw.mono (fun _ _ e=>.inr e),h2,h1,hfw,fun k hk=>(h3 k hk).imp id (fun h=>Nat.le_trans hI.size h)⟩
   · refine VC.plain rfl fun a wx hf=>?_
     obtain ⟨v26,g26,s26⟩:=hf.got 0 (by kernel_rfl) (by intro j hj;simp [eats] at hj) rfl rfl;replace s26:=s26.trans (show v26=.pointer (some ⟨cb,0,none⟩) from g26);clear g26;have q26:=Ac s26;exact gives_value (by simp [go_sem,q26]) ⟨hf.c,rfl,rfl⟩
   · refine VC.plain rfl fun a wx hf=>?_
     obtain ⟨v36,g36,s36⟩:=hf.got 10 (by kernel_rfl) (by intro j hj;simp [eats] at hj) rfl rfl;replace s36:=s36.trans (show v36=.pointer (some ⟨cb,0,none⟩) from g36);clear g36;have q36:=Ac s36;exact gives_value (by simp [go_sem,q36]) ⟨hf.c,rfl,rfl⟩
   · refine VC.plain rfl fun a wx hf=>?_
     obtain ⟨v37,g37,s37⟩:=hf.got 11 (by kernel_rfl) (by intro j hj;simp [eats] at hj) rfl rfl;replace s37:=s37.trans (show v37=.pointer (some ⟨cb,12,none⟩) from g37);clear g37;have q37:=Ac s37;obtain ⟨v35,g35,s35⟩:=hf.got 9 (by kernel_rfl) (by intro j hj;simp [eats] at hj;omega) rfl rfl;have q35:=Ac s35;replace g35:(fun (v:Value) (w:World)=>AkK 8 U (.slice ar s.results.length cr) (s.results.length+1) (resL s.results rs++[.int .i64 tk,.int .i64 x.kind,.string x.text,.int .i64 x.int,.float .f64 x.real,.bool x.flag,.slice ad x.list.length cap,.bool true]) v w) v35 wx:=g35;dsimp only at g35;obtain ⟨h1,h2,h3⟩:=g35;obtain ⟨a9,c9,rfl,_⟩:=h1.shape;have hc:wx.cell? ⟨cb,12,none⟩=some (.slice ar s.results.length cr):=h2.cell c12 hcb
     exact gives_skip (w' := wx.setCell ⟨cb,12,none⟩ _) (by simp [go_sem,q37,q35,hc,(hblk.fr h2 hcb).frz 12 none]) ⟨(h2.mono (fun _ _ e=>.inr e)).setCell (fun _=>.inl rfl) _,((Fr.refl (fun k=>k=cb) wx).setCell (fun _=>rfl) _:Fr (fun k=>k=cb) wx _),_,wx,rfl,h1,h2,h3⟩
 · intro vs w8 _ hG
   obtain ⟨v2,w2,e2,hak⟩:=hG 12 (by decide) (by decide);clear hG hbuf hblk c12 hcb hbox;have hak2:AkK 8 U pu.vr (s.results++[(tk,x,true)]).length (resL (s.results++[(tk,x,true)]) (rs++[(ad,cap)])) v2 w2:=by
     rw [er.out,Di _ _ hrl,List.length_append];exact hak
   obtain ⟨o4,hC4,hP4,hw4⟩:=E4 hCU.out hPU.out (by rw [List.length_append,List.length_append,hrl];rfl) hak2;rw [<-e2] at hC4 hP4 hw4;have hfin:Cli o4 w8 cb (s8.readY k x):=by rw [hfn.out];exact ⟨_,_,hC4,hP4,hqu⟩
   have hw:=Hd (hwU.out.trans hw4);clear hak hak2 hC4 hP4 hw4 e2 hCU hPU hwU er hfn;replace hfin:=Hd hfin;simp only [Al,Act.put,List.setIfInBounds_toArray,List.set_cons_zero,List.set_cons_succ];go_wp2_with fail
   go_ret2
   exact ⟨by rw [htk.out,hlst.out];rfl,o4,hfin.out,hw.out⟩
set_option maxRecDepth 100000 in
set_option maxHeartbeats 6400000 in
theorem cread_none {ow:Nat->Nat} {w0:World} {cb:Nat} {s:CS} {k:ByteArray} (tb:Bool) (h:Cli ow w0 cb s) (ho:s.over=false) (hopt:s.md.optin=false) (hl:s.last<=1000000) (hk:A1 s.near.es k=none) (hks:k.size<=1000000) (hnl0:0<=s.near.last) (hnl:s.near.last<=1000000000) (hos:s.out.size<=1000000000) (has:s.asked.length<=1000000)
   (htold:∀W oo s', Cli oo W cb s' -> s'.md=s.md->Calls Tryz.prog 39 #[P0 cb,.string k] W fun e w' => e=.returned (.bool tb)/\Below W.heap.size W w') :
   Calls Tryz.prog 11 #[P0 cb,.string k] w0 fun e w' => e=.returned (.tuple #[.int .i64 ((s.last+1:Nat):Int),.int .i64 0])/\∃ow', Cli ow' w' cb (s.readN k tb)/\CW ow w0 ow' w' := by
 obtain ⟨p0,rs0,hC0,hP0,hq0⟩:=h.out;have c14:=hC0.c14;rw [ho] at c14;obtain ⟨lst,hlst⟩:∃lst,lst=s.last+1:=⟨_,rfl⟩;clear hC0 hP0 hq0;replace h:=Hd h;replace hlst:=Hd hlst
 go_enter Tryz.func11,Tryz.ntmps11
 go_wp2_with fail
 refine (Gf h.out (by omega)).mono ?_;rintro e w1 ⟨o1,rfl,hc1,hw1⟩;rw [<-hlst.out];obtain ⟨p1,rs1,hC1,hP1,hq1⟩:=hc1.out;have d0:=hC1.c0;clear c14 h hc1;replace hC1:=Hd hC1;replace hP1:=Hd hP1;replace hw1:=Hd hw1;go_wp2_with fail
 refine (Av.near_get hP1.out.near k).mono ?_;rintro e w2 ⟨cs,fp', rfl,hrv,hN,hW⟩;obtain ⟨hP2,hw2⟩:=hP1.out.setNear hN hW;have hC2:=(hC1.out.fr hW.1 (fun e=>by have h1:=hP1.out.ofp cb e;rw [hP1.out.ocb] at h1;exact absurd h1 (by decide))).near fp' (s.tok.near.get k);have hw02:=hw1.out.trans hw2;obtain ⟨O2,hO2⟩:∃O2,O2=owN o1 w1.heap.size fp' 1:=⟨_,rfl⟩;rw [<-hO2] at hP2 hw02;clear hW hN hw2 hO2 hP1 hC1 hw1 d0;have hkt:A1 s.tok.near.es k=none:=hk;have hgk:s.tok.near.get k=s.near:=by unfold NS.get;rw [hkt];rfl
 rw [hkt] at hrv ⊢;rw [hgk] at hP2 hC2;obtain ⟨ad,cap,css,he,_⟩:=hrv.out;have he6:cs.toArray=#[.int .i64 0,.string ⟨#[]⟩,.int .i64 0,.float .f64 0,.bool false,.slice ad 0 cap]:=by rw [he];rfl
 rw [he6];clear he he6 hrv hk hkt hgk;have hc2:Cli O2 w2 cb s.tok:=⟨_,_,hC2,hP2,hq1⟩;clear hC2 hP2 hq1;replace hc2:=Hd hc2;replace hw02:=Hd hw02;simp only [Option.isSome_none];have hth:=Hd (Bj w2 40);have hnv:=Hd (Cw w2 40 [.int .i64 0,.string (⟨#[]⟩:ByteArray),.int .i64 0,.float .f64 0,.bool false,.slice ad 0 cap] rfl);have tok1:True:=trivial;go_upto_region 5 with (have _t:=tok1;refine wpList_store_mid rfl 40 _ _ rfl w2.heap.size 0 _ rfl rfl hth.out Ai (one6 _ _ _ _ _ _ _ _) ?_;clear tok1 _t)
 generalize (w2.alloc (.cells #[Value.int .i64 0,.string ⟨#[]⟩,.int .i64 0,.float .f64 0,.bool false,.slice none 0 0] 40)).setCells w2.heap.size 0 [Value.int .i64 0,.string (⟨#[]⟩:ByteArray),.int .i64 0,.float .f64 0,.bool false,.slice ad 0 cap]=w3 at hnv ⊢;obtain ⟨hb3,hr3,_⟩:=hnv.out;obtain ⟨G3,hGG3⟩:∃G,G=w2.heap.size:=⟨_,rfl⟩;rw [<-hGG3] at hr3 ⊢;replace hGG3:=Hd hGG3;clear hnv hth;obtain ⟨hc3,hw3⟩:=hc2.out.grow hb3;have hw03:=hw02.out.trans hw3;obtain ⟨p3,rs3,hC3,hP3,hq3⟩:=hc3.out;have e3:w3.cell? ⟨cb,3,none⟩=some (.bool s.md.optin):=hC3.c3;rw [hopt] at e3;clear hc2 hw02 hw3 hb3 hr3 hc3;replace hC3:=Hd hC3;replace hP3:=Hd hP3;replace hw03:=Hd hw03;obtain ⟨w4,hw4⟩:∃w4,w4=(w3.alloc (.cells #[.int .i64 0,.int .i64 0] 71)).setCells w3.heap.size 0 [.int .i64 (lst:Int),.int .i64 0]:=⟨_,rfl⟩
 obtain ⟨hb4,hm4,hk4⟩:Below w3.heap.size w3 w4/\w4.rangeAt w3.heap.size 0 [.int .i64 (lst:Int),.int .i64 0]/\Blk w4 w3.heap.size:=by rw [hw4];exact Fp w3 71 [.int .i64 0,.int .i64 0] [.int .i64 (lst:Int),.int .i64 0] rfl
 have hth:(w3.alloc (.cells #[.int .i64 0,.int .i64 0] 71)).there w3.heap.size 0 2:=Cu w3 71 [.int .i64 0,.int .i64 0];obtain ⟨M,hM⟩:∃M,M=w3.heap.size:=⟨_,rfl⟩;rw [<-hM] at hm4 hth hk4 hw4;have hM4:M<w4.heap.size:=hk4.lt;obtain ⟨hP4,hcw4⟩:=hP3.out.addEx hb4 M (by rw [hM];exact Nat.le_refl _) hM4;have hC4:=hC3.out.below hb4;have hw04:=hw03.out.trans hcw4;obtain ⟨O4,hO4⟩:∃O4,O4=owN O2 w3.heap.size [M] 9:=⟨_,rfl⟩;rw [<-hO4] at hP4 hw04;have hC4:Cells w4 cb { p3 with ex:=M :: p3.ex } s.tok:=⟨hC4.c0,hC4.c1,hC4.c2,hC4.c3,hC4.c4,hC4.c5,hC4.c6,hC4.c7,hC4.c8,hC4.c9,hC4.c10,hC4.c11,hC4.c12,hC4.c13,hC4.c14⟩
 obtain ⟨p4,hp4⟩:∃p4,p4=({ p3 with ex:=M :: p3.ex }:CAt):=⟨_,rfl⟩
 have hM0:w0.heap.size<=M:=by rw [hM];exact hw03.out.fr.size
 have hMe:M∈({ p3 with ex:=M :: p3.ex }:CAt).ex:=List.mem_cons_self ..
 rw [<-hp4] at hC4 hP4 hMe;have hq4:p4.qm=0/\p4.qs=0:=by rw [hp4];exact hq3
 have hc4:Cli O4 w4 cb s.tok:=⟨_,_,hC4,hP4,hq4⟩;have hto:=Hd (htold w4 O4 s.tok hc4 rfl);clear htold hC3 hP3 hw03 hcw4 hO4 hp4 hb4 hc4;replace hC4:=Hd hC4;replace hP4:=Hd hP4;replace hw04:=Hd hw04;replace hth:=Hd hth;replace hm4:=Hd hm4;replace hk4:=Hd hk4;replace hw4:=Hd hw4;replace hM:=Hd hM;have tok2:True:=trivial;go_upto_region 11 with (have _t:=tok2;refine wpList_store_mid rfl 71 _ _ rfl w3.heap.size 0 _ rfl rfl (by rw [<-hM.out];exact hth.out) Dk (one2 _ _) ?_;clear tok2 _t)
 rw [<-hM.out,<-hw4.out];go_wp2_with fail
 refine hto.out.mono ?_;rintro e w5 ⟨rfl,hb5⟩;obtain ⟨hP5,hcw5⟩:=hP4.out.grow hb5;have hC5:=hC4.out.below hb5;have hw05:=hw04.out.trans hcw5;have hm5:w5.rangeAt M 0 [.int .i64 (lst:Int),.int .i64 0]:=fun j u hj=>Aa hb5 _ _ (hm4.out j u hj);have hk5:Blk w5 M:=hk4.out.of_block (hb5.block _ hM4);clear hP4 hC4 hw04 hcw5 hm4 hk4 hth hto hb5 e3;cases tb with
 | false=>
   have hc5:Cli O4 w5 cb s.tok:=⟨_,_,hC5,hP5,hq4⟩;clear hP5 hC5 hk5;obtain ⟨w9,hw9⟩:∃w9,w9=World.alloc w5 (.cells #[.string tGet,.string k] 9):=⟨_,rfl⟩;have hb9:Below (World.heap w5).size w5 w9:=by rw [hw9];exact (Below.refl _ _).alloc (Nat.le_refl _) _
   have hx9:Reads w9 1 (.slice (some ⟨(World.heap w5).size,0,none⟩) 2 2) 2 ([tGet,k].map Value.string):=⟨_,_,rfl,rfl,fun j u hj=>⟨_,0,rfl,by rw [hw9,Nat.zero_add,World.cell?_alloc_new];simpa using hj⟩⟩;obtain ⟨hc9,hcw9⟩:=(hc5).grow hb9;have hw09:=Hd ((hw05).trans hcw9);have hask:=R2.ask_any (l:=[tGet,k]) (lst:Int) 0 hc9 hx9 (fun t ht=>by
     rcases List.mem_cons.1 ht with e | ht
     · rw [e];decide
     · rw [List.mem_singleton.1 ht];exact hks) (by decide) hos has
   have hmM:=Hd (hm5);clear hx9 hc9 hb9 hcw9;replace hask:=Hd hask;replace hw9:=Hd hw9;have tok5:True:=trivial;go_wp2_with (have _t:=tok5;refine wpList_load_mid rfl 71 _ rfl M 0 rfl _ _ hmM.out Tryz.underlying71 rfl Dk ?_;clear tok5 _t)
   rw [<-hw9.out];refine hask.out.mono ?_;rintro e w8 ⟨o8,rfl,hc8,hw8⟩;have hfin:Cli o8 w8 cb (s.readN k false):=by
     rw [hlst.out] at hc8;first | exact hc8 | (rw [hti.out] at hc8;exact hc8)
   have hw:=Hd (hw09.out.trans hw8);clear hc8 hw8 hw09 hask hmM;replace hfin:=Hd hfin;go_wp2_with fail
   go_ret2
   exact ⟨by rw [hlst.out];rfl,o8,hfin.out,hw.out⟩
 | true=>
   have hnM:M ∉ p4.fp:=fun hm=>by have h1:=hP5.ofp M hm;rw [hP5.oex M hMe] at h1;exact absurd h1 (by decide)
   have hcM:¬cb=M:=fun e=>by have h1:=hP5.ocb;rw [e,hP5.oex M hMe] at h1;exact absurd h1 (by decide)
   have d0:=hC5.c0;replace hC5:=Hd hC5;replace hP5:=Hd hP5;replace hw05:=Hd hw05;replace hm5:=Hd hm5;replace hk5:=Hd hk5;go_wp2_with fail
   refine (Av.near_begin hP5.out.near hnl hnl0 k).mono ?_;rintro e w6 ⟨rfl,hN,hW⟩;obtain ⟨ti,hti⟩:∃ti,ti=s.near.last+1:=⟨_,rfl⟩;have hti9:s.tok.near.last+1=ti:=hti.symm;rw [hti9];obtain ⟨hP6,hcw6⟩:=hP5.out.setNear hN hW;have hC6:=(hC5.out.fr hW.1 (fun e=>by have h1:=hP5.out.ofp cb e;rw [hP5.out.ocb] at h1;exact absurd h1 (by decide))).near p4.fp (s.tok.near.begin k);have m6:w6.cell? ⟨M,1,none⟩=some (.int .i64 0):=hW.1.cell (by have:=hm5.out 1 _ rfl;rwa [Nat.zero_add] at this) hnM;have m60:w6.cell? ⟨M,0,none⟩=some (.int .i64 (lst:Int)):=hW.1.cell (by have:=hm5.out 0 _ rfl;rwa [Nat.zero_add] at this) hnM;have k6:Blk w6 M:=hk5.out.fr hW.1 hnM;have z6:=k6.frz 1 none;have hw06:=hw05.out.trans hcw6;obtain ⟨w7,hw7⟩:∃w7,w7=w6.setCell ⟨M,1,none⟩ (.int .i64 ti):=⟨_,rfl⟩;have hf7:Fr (fun k=>k=M) w6 w7:=by rw [hw7];exact (Fr.refl (fun k=>k=M) w6).setCell (fun _=>rfl) _
   have hP7:=hP6.setEx hMe hf7;have hC7:=hC6.fr hf7 hcM;have hw07:=Hd (hw06.ex hf7 hM0);have hm7:w7.rangeAt M 0 [.int .i64 (lst:Int),.int .i64 ti]:=fun j u hj=>by
     rw [hw7,Nat.zero_add];rcases j with _ | _ | j
     · cases hj
       rw [Ab (by simp)];exact m60
     · cases hj
       exact Af m6
     · simp at hj
   have hc7:Cli _ w7 cb { s.tok with near:=s.tok.near.begin k }:=⟨_,_,hC7,hP7,hq4⟩
   clear hP7 hC7 hP6 hC6 hcw6 hw06 hN hW hP5 hC5 hw05 hm5 hk5 hf7 k6 d0 m60;replace hw7:=Hd hw7;replace hti:=Hd hti;replace hc7:=Hd hc7;replace hm7:=Hd hm7;go_upto_region 13 with fail
   rw [<-hw7.out];clear m6 z6;obtain ⟨w9,hw9⟩:∃w9,w9=World.alloc w7 (.cells #[.string tGet,.string k] 9):=⟨_,rfl⟩;have hb9:Below (World.heap w7).size w7 w9:=by rw [hw9];exact (Below.refl _ _).alloc (Nat.le_refl _) _
   have hx9:Reads w9 1 (.slice (some ⟨(World.heap w7).size,0,none⟩) 2 2) 2 ([tGet,k].map Value.string):=⟨_,_,rfl,rfl,fun j u hj=>⟨_,0,rfl,by rw [hw9,Nat.zero_add,World.cell?_alloc_new];simpa using hj⟩⟩;obtain ⟨hc9,hcw9⟩:=(hc7.out).grow hb9;have hw09:=Hd ((hw07.out).trans hcw9);have hask:=R2.ask_any (l:=[tGet,k]) (lst:Int) ti hc9 hx9 (fun t ht=>by
     rcases List.mem_cons.1 ht with e | ht
     · rw [e];decide
     · rw [List.mem_singleton.1 ht];exact hks) (by decide) hos has
   have hmM:=Hd (hm7.out);clear hx9 hc9 hb9 hcw9;replace hask:=Hd hask;replace hw9:=Hd hw9;have tok5:True:=trivial;go_wp2_with (have _t:=tok5;refine wpList_load_mid rfl 71 _ rfl M 0 rfl _ _ hmM.out Tryz.underlying71 rfl Dk ?_;clear tok5 _t)
   rw [<-hw9.out];refine hask.out.mono ?_;rintro e w8 ⟨o8,rfl,hc8,hw8⟩;have hfin:Cli o8 w8 cb (s.readN k true):=by
     rw [hlst.out] at hc8;first | exact hc8 | (rw [hti.out] at hc8;exact hc8)
   have hw:=Hd (hw09.out.trans hw8);clear hc8 hw8 hw09 hask hmM;replace hfin:=Hd hfin;go_wp2_with fail
   go_ret2
   exact ⟨by rw [hlst.out];rfl,o8,hfin.out,hw.out⟩
end R2
end Go.Proofs.YtfaihaoajdcjbaaGreatDoor
