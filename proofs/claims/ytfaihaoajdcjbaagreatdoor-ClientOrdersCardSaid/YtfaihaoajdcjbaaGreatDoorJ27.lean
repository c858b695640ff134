/- The reader: Parse. -/
import Derived.Test.YtfaihaoajdcjbaaGreatDoorJ24
set_option linter.all false
namespace Go.Proofs.YtfaihaoajdcjbaaGreatDoor
open Go.RowKit
def Cy (out:Out (V × Nat × Nat)) (w:World) (e:Ending) (w' : World):Prop:=
 match out with
 | .stop q=>e=.returned (.tuple #[.agg #[.int .i64 0,.string ⟨#[]⟩,.int .i64 0,.float .f64 0,.bool false,.slice none 0 0],.int .i64 0,.int .i64 (q:Int)])/\Below w.heap.size w w'
 | .got (v,u,_)=>∃(a:Option Addr) (ca:Nat),e=.returned (.tuple #[.agg #[.int .i64 v.kind,.string v.text,.int .i64 v.int,.float .f64 v.real,.bool v.flag,.slice a v.list.length ca],.int .i64 (u:Int),.int .i64 0]) /\
     RV (Aq w.heap.size w') (Aj v.kind v.text v.int v.real v.flag a v.list.length ca) v/\Below w.heap.size w w'
structure PS (rp:Rp) (b o n cap:Nat) (s:ByteArray) (w W:World):Prop where
 r0:W.rangeAt w.heap.size 0 [.int .i64 0,.string ⟨#[]⟩,.int .i64 0,.float .f64 0,.bool false,.slice none 0 0]
 k0:Blk W w.heap.size
 c1:W.cell? ⟨w.heap.size+1,0,none⟩=some (.int .i64 0)
 k1:Blk W (w.heap.size+1)
 c2:W.cell? ⟨w.heap.size+1+1,0,none⟩=some (.int .i64 0)
 k2:Blk W (w.heap.size+1+1)
 rs:RS rp w W (w.heap.size+1+1+1) b o n cap s 0 1
 below:Below w.heap.size w W
theorem PS.start {rp:Rp} {w:World} {b o n cap:Nat} {s:ByteArray} {t1 t2 t3:TypeId} (hB:Lib.Bytes w b o s) (hs:s.size=n) (hr:n<=cap) (hbig:n<=1000000000) (hE:Env rp w s) (hbw:b<w.heap.size) :
   PS rp b o n cap s w ((((w.alloc (.cells #[.int .i64 0,.string ⟨#[]⟩,.int .i64 0,.float .f64 0,.bool false,.slice none 0 0] 40)).alloc (.cells #[.int .i64 0] t1)).alloc (.cells #[.int .i64 0] t2)).alloc (.cells #[.slice (some ⟨b,o,none⟩) n cap,.int .i64 0,.int .i64 1] t3)):=by
 obtain ⟨W1,hW1⟩:∃W1,W1=w.alloc (.cells #[.int .i64 0,.string ⟨#[]⟩,.int .i64 0,.float .f64 0,.bool false,.slice none 0 0] 40):=⟨_,rfl⟩;obtain ⟨W2,hW2⟩:∃W2,W2=W1.alloc (.cells #[.int .i64 0] t1):=⟨_,rfl⟩;obtain ⟨W3,hW3⟩:∃W3,W3=W2.alloc (.cells #[.int .i64 0] t2):=⟨_,rfl⟩;obtain ⟨W4,hW4⟩:∃W4,W4=W3.alloc (.cells #[.slice (some ⟨b,o,none⟩) n cap,.int .i64 0,.int .i64 1] t3):=⟨_,rfl⟩;rw [<-hW1,<-hW2,<-hW3,<-hW4];have s1:W1.heap.size=w.heap.size+1:=by rw [hW1];simp
 have s2:W2.heap.size=w.heap.size+1+1:=by rw [hW2];simp [s1]
 have s3:W3.heap.size=w.heap.size+1+1+1:=by rw [hW3];simp [s2]
 have b1:Below w.heap.size w W1:=by rw [hW1];exact (Below.refl _ _).alloc (Nat.le_refl _) _
 have b2:Below W1.heap.size W1 W2:=by rw [hW2];exact (Below.refl _ _).alloc (Nat.le_refl _) _
 have b3:Below W2.heap.size W2 W3:=by rw [hW3];exact (Below.refl _ _).alloc (Nat.le_refl _) _
 have b4:Below W3.heap.size W3 W4:=by rw [hW4];exact (Below.refl _ _).alloc (Nat.le_refl _) _
 have b34:=b3.trans (b4.mono b3.size);have b24:=b2.trans (b34.mono b2.size);have b14:=b1.trans (b24.mono b1.size);have r1:W1.rangeAt w.heap.size 0 [.int .i64 0,.string ⟨#[]⟩,.int .i64 0,.float .f64 0,.bool false,.slice none 0 0]:=by
   rw [hW1];intro j y hj;rw [Nat.zero_add,World.cell?_alloc_new];simpa using hj
 have k1:Blk W1 w.heap.size:=by rw [hW1];exact Blk.new _ _ _
 have k2:Blk W2 W1.heap.size:=by rw [hW2];exact Blk.new _ _ _
 have k3:Blk W3 W2.heap.size:=by rw [hW3];exact Blk.new _ _ _
 have k4:Blk W4 W3.heap.size:=by rw [hW4];exact Blk.new _ _ _
 have e2:W2.cell? ⟨W1.heap.size,0,none⟩=some (.int .i64 0):=by rw [hW2,World.cell?_alloc_new];rfl
 have e3:W3.cell? ⟨W2.heap.size,0,none⟩=some (.int .i64 0):=by rw [hW3,World.cell?_alloc_new];rfl
 have f0:W4.cell? ⟨W3.heap.size,0,none⟩=some (.slice (some ⟨b,o,none⟩) n cap):=by rw [hW4,World.cell?_alloc_new];rfl
 have f1:W4.cell? ⟨W3.heap.size,1,none⟩=some (.int .i64 0):=by rw [hW4,World.cell?_alloc_new];rfl
 have f2:W4.cell? ⟨W3.heap.size,2,none⟩=some (.int .i64 1):=by rw [hW4,World.cell?_alloc_new];rfl
 have g2:=Aa b34 _ _ e2;have g3:=Aa b4 _ _ e3;have h2:=k2.of_block (b34.block _ k2.lt);have h3:=k3.of_block (b4.block _ k3.lt);rw [s1] at g2 h2;rw [s2] at g3 h3;rw [s3] at f0 f1 f2 k4;exact ⟨fun j y hj=>Aa b24 _ _ (r1 j y hj),k1.of_block (b24.block _ k1.lt),g2,h2,g3,h3,⟨⟨f0,f1,f2,k4,A3 hB b14,hs,by omega,hr,hbig⟩,hE,b14,by omega,Nat.zero_le _⟩,b14⟩
theorem Gg {B x:Nat} {S:Nat->Prop} {w w' : World} (hf:Fr S w w') (hS:∀i,x<=i->¬S i) (hB:B<=x):∀a u,Aq x w a=some u->Aq B w' a=some u:=fun a u h=>by
 obtain ⟨h1,h2⟩:=A5 h;unfold Aq;rw [if_neg (by omega)];exact hf.cell h1 (hS _ h2)
def csP (B:Nat) (i:Nat) (w w' : World):Prop:=match i with
 | 5=>Fr (fun k=>k=B) w w'
 | 6=>Fr (fun k=>k=B+1) w w'
 | 7=>Fr (fun k=>k=B+2) w w'
 | _=>w' = w
structure CsV (B:Nat) (ys:List Value) (W w:World):Prop where
 c:CsC B W w
 r:w.rangeAt B 0 ys
namespace R2
set_option maxRecDepth 100000 in
set_option maxHeartbeats 3200000 in
theorem parse_any {rp:Rp} {w:World} {b o n cap:Nat} {s:ByteArray} (hB:Lib.Bytes w b o s) (hs:s.size=n) (hr:n<=cap) (hbig:n<=1000000000) (hE:Env rp w s) (hbw:b<w.heap.size) (hnd:A7 rp 8 1 s.data.toList) :
   Calls Tryz.prog 56 #[.slice (some ⟨b,o,none⟩) n cap] w (Cy (Aw rp 8 1 s.data.toList) w):=by
 have hmf:∀(fn:Fn) (first cap:Array Value) (w:World),(Instr.makeFunc fn first cap).run Tryz.prog w=.ok (.func fn first cap) w:=fun _ _ _ _=>rfl
 go_enter_defers Tryz.func56,Tryz.ntmps56
 go_wp2_with fail
 have hP:=PS.start (t1:=3) (t2:=28) (t3:=124) hB hs hr hbig hE hbw;generalize (((w.alloc (.cells #[Value.int .i64 0,.string ⟨#[]⟩,.int .i64 0,.float .f64 0,.bool false,.slice none 0 0] 40)).alloc (.cells #[Value.int .i64 0] 3)).alloc (.cells #[Value.int .i64 0] 28)).alloc (.cells #[Value.slice (some ⟨b,o,none⟩) n cap,.int .i64 0,.int .i64 1] 124)=W at hP ⊢;have hv:=value_any (rp:=rp) (g:=w.heap.size+1+1+1) (o:=o) (n:=n) (cap:=cap) (s:=s) hbw 8 (Nat.le_refl _) W 0 1 hP.rs (by omega) hnd;rw [List.drop_zero,show (8:Int) - ((8:Nat):Int)=0 by omega] at hv;refine hv.mono fun e W8 he=>?_;cases hsc:Aw rp 8 1 s.data.toList with
 | stop q=>
   rw [hsc] at he;obtain ⟨rfl,hf8⟩:=he;have ne0:¬w.heap.size=w.heap.size+1+1+1:=by omega
   have ne1:¬w.heap.size+1=w.heap.size+1+1+1:=by omega
   have ne2:¬w.heap.size+1+1=w.heap.size+1+1+1:=by omega
   refine leaves_cons (f:=76) (args:=#[.pointer (some ⟨w.heap.size,0,none⟩),.pointer (some ⟨w.heap.size+1,0,none⟩),.pointer (some ⟨w.heap.size+1+1,0,none⟩)]) (by simp) (by simp [go_sem]) ?_;refine (R2.catch_stop (w:=W8) (B:=w.heap.size) [] (fun j y hj=>hf8.cell (hP.r0 j y hj) ne0) (hP.k0.fr hf8 ne0) (hf8.cell hP.c1 ne1) (hP.k1.fr hf8 ne1) (hf8.cell hP.c2 ne2) (hP.k2.fr hf8 ne2)).mono ?_;rintro e u' w'' ⟨rfl,rfl,hr9,c19,c29,hf9⟩;have hbel:Below w.heap.size w w'' := (hP.below.trans (hf8.below hP.below.size (fun i hi e=>by omega))).trans (hf9.below (Nat.le_trans hP.below.size hf8.size) (fun i hi e=>by omega));have e0:=hr9 0 _ rfl;have e1:=hr9 1 _ rfl;have e2:=hr9 2 _ rfl;have e3:=hr9 3 _ rfl;have e4:=hr9 4 _ rfl;have e5:=hr9 5 _ rfl;simp only [Nat.zero_add] at e0 e1 e2 e3 e4 e5;replace hbel:=Hd hbel;simp [Leaves,settle,results,Tryz.results56,go_sem,e0,e1,e2,e3,e4,e5,c19,c29,Cy]
   exact hbel.out
 | got r=>
   obtain ⟨vv,uu,mm⟩:=r;rw [hsc] at he;obtain ⟨ad1,ca1,rfl,hrv,hf8,hrs⟩:=he;have ne0:¬w.heap.size=w.heap.size+1+1+1:=by omega
   have ne1:¬w.heap.size+1=w.heap.size+1+1+1:=by omega
   have ne2:¬w.heap.size+1+1=w.heap.size+1+1+1:=by omega
   have htC:=At (n:=6) (fun j y hj=>hf8.cell (hP.r0 j y hj) ne0) (hP.k0.fr hf8 ne0) rfl;have hbW8:Below w.heap.size w W8:=hP.below.trans (hf8.below hP.below.size (fun i hi e=>by omega));have hfw:Fr (fun k=>k=w.heap.size) W8 (W8.setCells w.heap.size 0 [.int .i64 vv.kind,.string vv.text,.int .i64 vv.int,.float .f64 vv.real,.bool vv.flag,.slice ad1 vv.list.length ca1]):=Fr.setCells (S:=fun k=>k=w.heap.size) (fun _=>rfl) _ _ _ (Fr.refl _ _);have hr9:=World.rangeAt_setCells_same _ _ _ [Value.int .i64 vv.kind,.string vv.text,.int .i64 vv.int,.float .f64 vv.real,.bool vv.flag,.slice ad1 vv.list.length ca1] htC;have hk9:=Blk.setCells (b:=w.heap.size) [.int .i64 vv.kind,.string vv.text,.int .i64 vv.int,.float .f64 vv.real,.bool vv.flag,.slice ad1 vv.list.length ca1] 0 W8 (hP.k0.fr hf8 ne0);have hc19:=hfw.cell (hf8.cell hP.c1 ne1) (by show ¬w.heap.size+1=w.heap.size;omega)
   have hc29:=hfw.cell (hf8.cell hP.c2 ne2) (by show ¬w.heap.size+1+1=w.heap.size;omega);have hk19:=(hP.k1.fr hf8 ne1).fr hfw (by omega);have hk29:=(hP.k2.fr hf8 ne2).fr hfw (by omega);have hg1:=hfw.cell hrs.scan.c1 (by show ¬w.heap.size+1+1+1=w.heap.size;omega);rw [Nat.zero_add] at hg1;have hbel9:Below w.heap.size w (W8.setCells w.heap.size 0 [.int .i64 vv.kind,.string vv.text,.int .i64 vv.int,.float .f64 vv.real,.bool vv.flag,.slice ad1 vv.list.length ca1]):=hbW8.trans (hfw.below hbW8.size (fun i hi e=>by omega));have hWs:w.heap.size+1+1+1<W.heap.size:=hP.rs.scan.blk.lt;replace htC:=Hd htC;replace hP:=Hd hP;replace hE:=Hd hE;clear hnd;replace hB:=Hd hB;replace hsc:=Hd hsc;go_upto_region 4 with (refine wpList_store_mid rfl 40 _ _ rfl w.heap.size 0 _ rfl rfl htC.out Ai (one6 _ _ _ _ _ _ _ _) ?_)
   dsimp only [Act.put];generalize W8.setCells w.heap.size 0 [Value.int .i64 vv.kind,.string vv.text,.int .i64 vv.int,.float .f64 vv.real,.bool vv.flag,.slice ad1 vv.list.length ca1]=W9 at *;obtain ⟨B,hBw⟩:∃B,B=w.heap.size:=⟨_,rfl⟩;obtain ⟨G0,hG0⟩:∃G0,G0=w.heap.size+1+1+1:=⟨_,rfl⟩;have hgn:¬(G0=B\/G0=B+1\/G0=B+2):=by omega
   have hrvm:RV (Aq W.heap.size W9) (Aj vv.kind vv.text vv.int vv.real vv.flag ad1 vv.list.length ca1) vv:=hrv.mono (Gg hfw (fun i hi e=>by omega) (Nat.le_refl _));have hlt2:=hk29.lt;replace hrvm:=Hd hrvm;replace hbel9:=Hd hbel9;rw [<-hG0,<-hBw];rw [<-hG0] at hg1;rw [<-hBw] at hr9 hk9 hc19 hk19 hc29 hk29 hlt2;have hCW:CsV B [.int .i64 vv.kind,.string vv.text,.int .i64 vv.int,.float .f64 vv.real,.bool vv.flag,.slice ad1 vv.list.length ca1] W9 W9.drew:=⟨⟨(Fr.refl _ _).drew,⟨_,rfl,hr9⟩,hk9.drew,⟨_,hc19⟩,hk19.drew,⟨_,hc29⟩,hk29.drew⟩,hr9⟩;clear hr9 hk9 hc19 hc29 hk19 hk29 hfw hrv htC hrs hf8 hbW8
   refine wp_region_rely (l:=[_,_,_,_,_,_,_,_]) (CsV B [.int .i64 vv.kind,.string vv.text,.int .i64 vv.int,.float .f64 vv.real,.bool vv.flag,.slice ad1 vv.list.length ca1] W9) (fun _=>True) (csP B) (fun kG_=>([fun v _=>v=.agg #[.int .i64 vv.kind,.string vv.text,.int .i64 vv.int,.float .f64 vv.real,.bool vv.flag,.slice ad1 vv.list.length ca1],fun v _=>v=.pointer (some ⟨G0,0,none⟩),fun v _=>v=.pointer (some ⟨G0,0,none⟩),fun v _=>v=.pointer (some ⟨G0,1,none⟩),fun v _=>v=.int .i64 (uu:Int),fun v w=>w.rangeAt B 0 [.int .i64 vv.kind,.string vv.text,.int .i64 vv.int,.float .f64 vv.real,.bool vv.flag,.slice ad1 vv.list.length ca1],fun v w=>w.cell? ⟨B+1,0,none⟩=some (.int .i64 (uu:Int)),fun v w=>w.cell? ⟨B+2,0,none⟩=some (.int .i64 0)]:List (Value->World->Prop)).getD kG_ (fun _ _=>True)) (eats []) (isIn []) (by kernel_rfl) (by kernel_rfl) (by kernel_rfl) hCW trivial ?_ ?_ ?_ ?_
   · intro i kG_ u w w' hne hE hg hr
     rcases kG_ with _ | _ | _ | _ | _ | _ | _ | _ | kG_
     · exact hg
     · exact hg
     · exact hg
     · exact hg
     · exact hg
     · replace hg:(fun (v:Value) (w:World)=>w.rangeAt B 0 [.int .i64 vv.kind,.string vv.text,.int .i64 vv.int,.float .f64 vv.real,.bool vv.flag,.slice ad1 vv.list.length ca1]) u w:=hg
       show (fun (v:Value) (w:World)=>w.rangeAt B 0 [.int .i64 vv.kind,.string vv.text,.int .i64 vv.int,.float .f64 vv.real,.bool vv.flag,.slice ad1 vv.list.length ca1]) u w';dsimp only at hg ⊢;replace hE:exB _ _ i 5=false:=hE;replace hne:5≠i:=hne;unfold csP at hr;split at hr
       all_goals first
         | exact absurd rfl hne
         | exact absurd (hE.symm.trans (by decide +kernel:exB _ _ _ _=true)) (by decide)
         | (subst hr;exact hg)
         | ((intro j y hj;exact hr.cell (hg j y hj) (by show ¬B=_;omega)))
     · replace hg:(fun (v:Value) (w:World)=>w.cell? ⟨B+1,0,none⟩=some (.int .i64 (uu:Int))) u w:=hg
       show (fun (v:Value) (w:World)=>w.cell? ⟨B+1,0,none⟩=some (.int .i64 (uu:Int))) u w';dsimp only at hg ⊢;replace hE:exB _ _ i 6=false:=hE;replace hne:6≠i:=hne;unfold csP at hr;split at hr
       all_goals first
         | exact absurd rfl hne
         | exact absurd (hE.symm.trans (by decide +kernel:exB _ _ _ _=true)) (by decide)
         | (subst hr;exact hg)
         | ((exact hr.cell hg (by show ¬B+1=_;omega)))
     · replace hg:(fun (v:Value) (w:World)=>w.cell? ⟨B+2,0,none⟩=some (.int .i64 0)) u w:=hg
       show (fun (v:Value) (w:World)=>w.cell? ⟨B+2,0,none⟩=some (.int .i64 0)) u w';dsimp only at hg ⊢;replace hE:exB _ _ i 7=false:=hE;replace hne:7≠i:=hne;unfold csP at hr;split at hr
       all_goals first
         | exact absurd rfl hne
         | exact absurd (hE.symm.trans (by decide +kernel:exB _ _ _ _=true)) (by decide)
         | (subst hr;exact hg)
         | ((exact hr.cell hg (by show ¬B+2=_;omega)))
     · trivial
   · exact fun _ _ _ _ _ _=>trivial
   · refine ⟨?_,?_,?_,?_,?_,?_,?_,?_,trivial⟩
     · refine VC.plain rfl fun a wx hf=>?_
       have s2:=hf.old 2 (by first | rfl | kernel_rfl);have q2:=Ac s2;exact A0 rfl (s2.trans rfl) hf.c.r Tryz.underlying40 rfl Ai ⟨hf.c,rfl,rfl⟩
     · refine VC.plain rfl fun a wx hf=>?_
       have s5:=hf.old 5 (by first | rfl | kernel_rfl);have q5:=Ac s5;exact gives_value (by simp [go_sem,q5]) ⟨hf.c,rfl,rfl⟩
     · refine VC.plain rfl fun a wx hf=>?_
       obtain ⟨v13,g13,s13⟩:=hf.got 1 (by kernel_rfl) (by intro j hj;simp [eats] at hj) rfl rfl;replace s13:=s13.trans (show v13=.pointer (some ⟨G0,0,none⟩) from g13);clear g13;have q13:=Ac s13;exact gives_value (by simp [go_sem,q13]) ⟨hf.c,rfl,rfl⟩
     · refine VC.plain rfl fun a wx hf=>?_
       obtain ⟨v14,g14,s14⟩:=hf.got 2 (by kernel_rfl) (by intro j hj;simp [eats] at hj) rfl rfl;replace s14:=s14.trans (show v14=.pointer (some ⟨G0,0,none⟩) from g14);clear g14;have q14:=Ac s14;exact gives_value (by simp [go_sem,q14]) ⟨hf.c,rfl,rfl⟩
     · refine VC.plain rfl fun a wx hf=>?_
       obtain ⟨v15,g15,s15⟩:=hf.got 3 (by kernel_rfl) (by intro j hj;simp [eats] at hj) rfl rfl;replace s15:=s15.trans (show v15=.pointer (some ⟨G0,1,none⟩) from g15);clear g15;have q15:=Ac s15;exact gives_value (by simp [go_sem,q15,Fr.cell (p:=⟨G0,1,none⟩) hf.c.c.fr hg1 hgn]) ⟨hf.c,rfl,rfl⟩
     · refine VC.plain rfl fun a wx hf=>?_
       have s2:=hf.old 2 (by first | rfl | kernel_rfl);have q2:=Ac s2;obtain ⟨v12,g12,s12⟩:=hf.got 0 (by kernel_rfl) (by intro j hj;simp [eats] at hj) rfl rfl;replace s12:=s12.trans (show v12=.agg #[.int .i64 vv.kind,.string vv.text,.int .i64 vv.int,.float .f64 vv.real,.bool vv.flag,.slice ad1 vv.list.length ca1] from g12);clear g12;have q12:=Ac s12;have ht:=At (n:=6) hf.c.r hf.c.c.k0 rfl;have hfw:Fr (fun k=>k=B) wx (wx.setCells B 0 [.int .i64 vv.kind,.string vv.text,.int .i64 vv.int,.float .f64 vv.real,.bool vv.flag,.slice ad1 vv.list.length ca1]):=Fr.setCells (S:=fun k=>k=B) (fun _=>rfl) _ _ _ (Fr.refl _ _);have hrs9:=World.rangeAt_setCells_same _ _ _ [Value.int .i64 vv.kind,.string vv.text,.int .i64 vv.int,.float .f64 vv.real,.bool vv.flag,.slice ad1 vv.list.length ca1] ht
       exact C4 rfl (s2.trans rfl) s12 ht Ai (one6 _ _ _ _ _ _ _ _) ⟨⟨hf.c.c.set0 hfw ⟨_,rfl,hrs9⟩ (Blk.setCells _ _ _ hf.c.c.k0),hrs9⟩,hfw,hrs9⟩
     · refine VC.plain rfl fun a wx hf=>?_
       have s3:=hf.old 3 (by first | rfl | kernel_rfl);have q3:=Ac s3;obtain ⟨v16,g16,s16⟩:=hf.got 4 (by kernel_rfl) (by intro j hj;simp [eats] at hj) rfl rfl;replace s16:=s16.trans (show v16=.int .i64 (uu:Int) from g16);clear g16;have q16:=Ac s16;obtain ⟨y1,hy1⟩:=hf.c.c.t1;have hfw:Fr (fun k=>k=B+1) wx (wx.setCell ⟨B+1,0,none⟩ (.int .i64 (uu:Int))):=Fr.setCell (S:=fun k=>k=B+1) (Fr.refl _ _) (fun _=>rfl) _;have hcs:(wx.setCell ⟨B+1,0,none⟩ (.int .i64 (uu:Int))).cell? ⟨B+1,0,none⟩=some (.int .i64 (uu:Int)):=Af hy1;exact gives_skip (w' := wx.setCell ⟨B+1,0,none⟩ (.int .i64 (uu:Int))) (by simp [go_sem,q3,q16,hy1,hf.c.c.k1.frz 0 none]) ⟨⟨hf.c.c.set1 hfw ⟨_,hcs⟩ (hf.c.c.k1.setCell _ _),fun j y hj=>hfw.cell (hf.c.r j y hj) (by show ¬B=B+1;omega)⟩,hfw,hcs⟩
     · refine VC.plain rfl fun a wx hf=>?_
       have s4:=hf.old 4 (by first | rfl | kernel_rfl);have q4:=Ac s4;obtain ⟨y1,hy1⟩:=hf.c.c.t2;have hfw:Fr (fun k=>k=B+2) wx (wx.setCell ⟨B+2,0,none⟩ (.int .i64 0)):=Fr.setCell (S:=fun k=>k=B+2) (Fr.refl _ _) (fun _=>rfl) _;have hcs:(wx.setCell ⟨B+2,0,none⟩ (.int .i64 0)).cell? ⟨B+2,0,none⟩=some (.int .i64 0):=Af hy1;exact gives_skip (w' := wx.setCell ⟨B+2,0,none⟩ (.int .i64 0)) (by simp [go_sem,q4,hy1,hf.c.c.k2.frz 0 none]) ⟨⟨hf.c.c.set2 hfw ⟨_,hcs⟩ (hf.c.c.k2.setCell _ _),fun j y hj=>hfw.cell (hf.c.r j y hj) (by show ¬B=B+2;omega)⟩,hfw,hcs⟩
   · intro vs w5 hC hG
     have g6:w5.cell? ⟨B+1,0,none⟩=some (.int .i64 (uu:Int)):=hG 6 (by decide) (by intro i hi;simp [eats]);have g7:w5.cell? ⟨B+2,0,none⟩=some (.int .i64 0):=hG 7 (by decide) (by intro i hi;simp [eats]);clear hG;have hr5:=hC.r;have hbel:=hbel9.out.trans (hC.c.fr.below hbel9.out.size (fun i hi e=>by omega));have hrv5:RV (Aq w.heap.size w5) (Aj vv.kind vv.text vv.int vv.real vv.flag ad1 vv.list.length ca1) vv:=hrvm.out.mono (Gg hC.c.fr (fun i hi e=>by omega) (by omega));clear hC;have e0:=hr5 0 _ rfl;have e1:=hr5 1 _ rfl;have e2:=hr5 2 _ rfl;have e3:=hr5 3 _ rfl;have e4:=hr5 4 _ rfl;have e5:=hr5 5 _ rfl;simp only [Nat.zero_add] at e0 e1 e2 e3 e4 e5;replace hr5:=Hd hr5;replace hbel:=Hd hbel;replace hrv5:=Hd hrv5;replace e0:=Hd e0;replace e1:=Hd e1;replace e2:=Hd e2;replace e3:=Hd e3;replace e4:=Hd e4;replace e5:=Hd e5;replace g6:=Hd g6;replace g7:=Hd g7
     simp only [Al,Act.put,List.setIfInBounds_toArray,List.set_cons_zero,List.set_cons_succ];go_wp2_with fail
     subst hBw;refine leaves_cons (f:=76) (args:=#[.pointer (some ⟨w.heap.size,0,none⟩),.pointer (some ⟨w.heap.size+1,0,none⟩),.pointer (some ⟨w.heap.size+1+1,0,none⟩)]) (by simp) (by simp [go_sem]) ?_;refine (catch_idle _ _ _ w5).mono ?_;rintro e u' w'' ⟨rfl,rfl,hww⟩;obtain rfl:=hww.symm;have hQ:Cy (.got (vv,uu,mm)) w (.returned (.tuple #[.agg #[.int .i64 vv.kind,.string vv.text,.int .i64 vv.int,.float .f64 vv.real,.bool vv.flag,.slice ad1 vv.list.length ca1],.int .i64 (uu:Int),.int .i64 0])) w5:=⟨ad1,ca1,rfl,hrv5.out,hbel.out⟩;rw [<-hsc.out] at hQ;replace hQ:=Hd hQ;simp [Leaves,settle,results,Tryz.results56,go_sem,e0.out,e1.out,e2.out,e3.out,e4.out,e5.out,g6.out,g7.out];exact hQ.out
end R2
set_option maxRecDepth 100000 in
set_option maxHeartbeats 3200000 in
theorem value_nilbuf {w:World} {g c:Nat} {a:Option Addr} {d:Int} (c0:w.cell? ⟨g,0,none⟩=some (.slice a 0 c)) (c1:w.cell? ⟨g,1,none⟩=some (.int .i64 0)) :
   Calls Tryz.prog 77 #[.pointer (some ⟨g,0,none⟩),.int .i64 d] w fun e w' => e=Bf 0/\Below w.heap.size w w' := by
 obtain ⟨W1,hW1⟩:∃W1,W1=w.alloc (.cells #[.int .i64 0,.string ⟨#[]⟩,.int .i64 0,.float .f64 0,.bool false,.slice none 0 0] 40):=⟨_,rfl⟩;have hb1:Below w.heap.size w W1:=by rw [hW1];exact (Below.refl _ _).alloc (Nat.le_refl _) _
 replace c0:=Aa hb1 _ _ c0;replace c1:=Aa hb1 _ _ c1;have hgl:g<W1.heap.size:=World.block_lt_of_cell? W1 ⟨g,0,none⟩ c0;replace hW1:=Hd hW1;replace hb1:=Hd hb1
 go_enter Tryz.func77,Tryz.ntmps77
 go_wp2_with fail
 rw [<-hW1.out];refine Ad (by kernel_rfl) (by kernel_rfl) ?_;repeat (go_big_quiet_step ((fail)))
 refine wpQuiet_nil ?_;rintro _ ⟨xq,rfl⟩;have hS:=Ag W1 xq;go_wp2_with fail
 refine (Bu _).mono ?_;rintro e w' ⟨rfl,hww⟩;obtain rfl:=hww.symm;exact ⟨rfl,rfl,hb1.out.trans (hS.mono hb1.out.size)⟩
structure PN (a:Option Addr) (c:Nat) (w W:World):Prop where
 r0:W.rangeAt w.heap.size 0 [.int .i64 0,.string ⟨#[]⟩,.int .i64 0,.float .f64 0,.bool false,.slice none 0 0]
 k0:Blk W w.heap.size
 c1:W.cell? ⟨w.heap.size+1,0,none⟩=some (.int .i64 0)
 k1:Blk W (w.heap.size+1)
 c2:W.cell? ⟨w.heap.size+1+1,0,none⟩=some (.int .i64 0)
 k2:Blk W (w.heap.size+1+1)
 f0:W.cell? ⟨w.heap.size+1+1+1,0,none⟩=some (.slice a 0 c)
 f1:W.cell? ⟨w.heap.size+1+1+1,1,none⟩=some (.int .i64 0)
 below:Below w.heap.size w W
theorem PN.start {a:Option Addr} {c:Nat} {w:World} {t1 t2 t3:TypeId} :
   PN a c w ((((w.alloc (.cells #[.int .i64 0,.string ⟨#[]⟩,.int .i64 0,.float .f64 0,.bool false,.slice none 0 0] 40)).alloc (.cells #[.int .i64 0] t1)).alloc (.cells #[.int .i64 0] t2)).alloc (.cells #[.slice a 0 c,.int .i64 0,.int .i64 1] t3)):=by
 obtain ⟨W1,hW1⟩:∃W1,W1=w.alloc (.cells #[.int .i64 0,.string ⟨#[]⟩,.int .i64 0,.float .f64 0,.bool false,.slice none 0 0] 40):=⟨_,rfl⟩;obtain ⟨W2,hW2⟩:∃W2,W2=W1.alloc (.cells #[.int .i64 0] t1):=⟨_,rfl⟩;obtain ⟨W3,hW3⟩:∃W3,W3=W2.alloc (.cells #[.int .i64 0] t2):=⟨_,rfl⟩;obtain ⟨W4,hW4⟩:∃W4,W4=W3.alloc (.cells #[.slice a 0 c,.int .i64 0,.int .i64 1] t3):=⟨_,rfl⟩;rw [<-hW1,<-hW2,<-hW3,<-hW4];have s1:W1.heap.size=w.heap.size+1:=by rw [hW1];simp
 have s2:W2.heap.size=w.heap.size+1+1:=by rw [hW2];simp [s1]
 have s3:W3.heap.size=w.heap.size+1+1+1:=by rw [hW3];simp [s2]
 have b1:Below w.heap.size w W1:=by rw [hW1];exact (Below.refl _ _).alloc (Nat.le_refl _) _
 have b2:Below W1.heap.size W1 W2:=by rw [hW2];exact (Below.refl _ _).alloc (Nat.le_refl _) _
 have b3:Below W2.heap.size W2 W3:=by rw [hW3];exact (Below.refl _ _).alloc (Nat.le_refl _) _
 have b4:Below W3.heap.size W3 W4:=by rw [hW4];exact (Below.refl _ _).alloc (Nat.le_refl _) _
 have b34:=b3.trans (b4.mono b3.size);have b24:=b2.trans (b34.mono b2.size);have b14:=b1.trans (b24.mono b1.size);have r1:W1.rangeAt w.heap.size 0 [.int .i64 0,.string ⟨#[]⟩,.int .i64 0,.float .f64 0,.bool false,.slice none 0 0]:=by
   rw [hW1];intro j y hj;rw [Nat.zero_add,World.cell?_alloc_new];simpa using hj
 have k1:Blk W1 w.heap.size:=by rw [hW1];exact Blk.new _ _ _
 have k2:Blk W2 W1.heap.size:=by rw [hW2];exact Blk.new _ _ _
 have k3:Blk W3 W2.heap.size:=by rw [hW3];exact Blk.new _ _ _
 have k4:Blk W4 W3.heap.size:=by rw [hW4];exact Blk.new _ _ _
 have e2:W2.cell? ⟨W1.heap.size,0,none⟩=some (.int .i64 0):=by rw [hW2,World.cell?_alloc_new];rfl
 have e3:W3.cell? ⟨W2.heap.size,0,none⟩=some (.int .i64 0):=by rw [hW3,World.cell?_alloc_new];rfl
 have f0:W4.cell? ⟨W3.heap.size,0,none⟩=some (.slice a 0 c):=by rw [hW4,World.cell?_alloc_new];rfl
 have f1:W4.cell? ⟨W3.heap.size,1,none⟩=some (.int .i64 0):=by rw [hW4,World.cell?_alloc_new];rfl
 have f2:W4.cell? ⟨W3.heap.size,2,none⟩=some (.int .i64 1):=by rw [hW4,World.cell?_alloc_new];rfl
 have g2:=Aa b34 _ _ e2;have g3:=Aa b4 _ _ e3;have h2:=k2.of_block (b34.block _ k2.lt);have h3:=k3.of_block (b4.block _ k3.lt);rw [s1] at g2 h2;rw [s2] at g3 h3;rw [s3] at f0 f1 f2 k4;exact ⟨fun j y hj=>Aa b24 _ _ (r1 j y hj),k1.of_block (b24.block _ k1.lt),g2,h2,g3,h3,f0,f1,b14⟩
set_option maxRecDepth 100000 in
set_option maxHeartbeats 3200000 in
theorem parse_none (a:Option Addr) (c:Nat) (w:World):Calls Tryz.prog 56 #[.slice a 0 c] w (Cy (.stop 0) w):=by
 have hmf:∀(fn:Fn) (first cap:Array Value) (w:World),(Instr.makeFunc fn first cap).run Tryz.prog w=.ok (.func fn first cap) w:=fun _ _ _ _=>rfl
 go_enter_defers Tryz.func56,Tryz.ntmps56
 go_wp2_with fail
 have hP:=PN.start (a:=a) (c:=c) (w:=w) (t1:=3) (t2:=28) (t3:=124);generalize (((w.alloc (.cells #[Value.int .i64 0,.string ⟨#[]⟩,.int .i64 0,.float .f64 0,.bool false,.slice none 0 0] 40)).alloc (.cells #[Value.int .i64 0] 3)).alloc (.cells #[Value.int .i64 0] 28)).alloc (.cells #[Value.slice a 0 c,.int .i64 0,.int .i64 1] 124)=W at hP ⊢;refine (value_nilbuf hP.f0 hP.f1).mono fun e W8 he=>?_;obtain ⟨rfl,hf8⟩:=he;refine leaves_cons (f:=76) (args:=#[.pointer (some ⟨w.heap.size,0,none⟩),.pointer (some ⟨w.heap.size+1,0,none⟩),.pointer (some ⟨w.heap.size+1+1,0,none⟩)]) (by simp) (by simp [go_sem]) ?_;refine (R2.catch_stop (w:=W8) (B:=w.heap.size) [] (fun j y hj=>Aa hf8 _ _ (hP.r0 j y hj)) (hP.k0.of_block (hf8.block _ hP.k0.lt)) (Aa hf8 _ _ hP.c1) (hP.k1.of_block (hf8.block _ hP.k1.lt)) (Aa hf8 _ _ hP.c2) (hP.k2.of_block (hf8.block _ hP.k2.lt))).mono ?_
 rintro e u' w'' ⟨rfl,rfl,hr9,c19,c29,hf9⟩;have hb8:=hP.below.trans (hf8.mono hP.below.size);have hbel:Below w.heap.size w w'' := hb8.trans (hf9.below hb8.size (fun i hi e=>by omega));have e0:=hr9 0 _ rfl;have e1:=hr9 1 _ rfl;have e2:=hr9 2 _ rfl;have e3:=hr9 3 _ rfl;have e4:=hr9 4 _ rfl;have e5:=hr9 5 _ rfl;simp only [Nat.zero_add] at e0 e1 e2 e3 e4 e5;replace hbel:=Hd hbel;simp [Leaves,settle,results,Tryz.results56,go_sem,e0,e1,e2,e3,e4,e5,c19,c29,Cy];exact hbel.out
theorem parse_nil (w:World):Calls Tryz.prog 56 #[.slice none 0 0] w (Cy (.stop 0) w):=parse_none none 0 w
theorem F0 (w:World):Calls Tryz.prog 30 #[] w fun e w' => e=.returned (.pointer (some ⟨w.heap.size,0,none⟩))/\w' = w.alloc (.cells #[.slice none 0 0,.int .i64 0] 92):=by
 go_enter Tryz.func30,Tryz.ntmps30
 go_wp2;go_ret;exact ⟨rfl,rfl⟩
end Go.Proofs.YtfaihaoajdcjbaaGreatDoor
