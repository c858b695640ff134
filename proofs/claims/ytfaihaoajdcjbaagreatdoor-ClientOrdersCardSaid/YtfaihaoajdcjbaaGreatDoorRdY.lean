/- The reader: Next, each way. -/
import Derived.Test.YtfaihaoajdcjbaaGreatDoorJ26
import Derived.Deep.MidRow
set_option linter.all false
namespace Go.Proofs.YtfaihaoajdcjbaaGreatDoor
open Go.RowKit
theorem Bj (W:World) (t:TypeId):(W.alloc (.cells #[.int .i64 0,.string ⟨#[]⟩,.int .i64 0,.float .f64 0,.bool false,.slice none 0 0] t)).there W.heap.size 0 6:=
 At (n:=6) (cs:=[.int .i64 0,.string ⟨#[]⟩,.int .i64 0,.float .f64 0,.bool false,.slice none 0 0]) (fun j y hj=>by rw [Nat.zero_add,World.cell?_alloc_new];simpa using hj) (Blk.new _ _ _) rfl
theorem Cw (W:World) (t:TypeId) (c:List Value) (hc:c.length=6):Below W.heap.size W ((W.alloc (.cells #[.int .i64 0,.string ⟨#[]⟩,.int .i64 0,.float .f64 0,.bool false,.slice none 0 0] t)).setCells W.heap.size 0 c) /\
   ((W.alloc (.cells #[.int .i64 0,.string ⟨#[]⟩,.int .i64 0,.float .f64 0,.bool false,.slice none 0 0] t)).setCells W.heap.size 0 c).rangeAt W.heap.size 0 c/\Blk ((W.alloc (.cells #[.int .i64 0,.string ⟨#[]⟩,.int .i64 0,.float .f64 0,.bool false,.slice none 0 0] t)).setCells W.heap.size 0 c) W.heap.size:=by
 have hb:Below W.heap.size W (W.alloc (.cells #[.int .i64 0,.string ⟨#[]⟩,.int .i64 0,.float .f64 0,.bool false,.slice none 0 0] t)):=(Below.refl _ _).alloc (Nat.le_refl _) _;refine ⟨hb.trans ((Fr.setCells (S:=fun k=>k=W.heap.size) (fun _=>rfl) _ _ _ (Fr.refl _ _)).below hb.size (fun i hi e=>by omega)),World.rangeAt_setCells_same _ _ _ _ (by rw [hc];exact Bj W t),Blk.setCells _ _ _ (Blk.new _ _ _)⟩
set_option maxRecDepth 100000 in
set_option maxHeartbeats 3200000 in
theorem next_bad {B r q n c:Nat} {a:Option Addr} {w:World} {s:ByteArray} (h:Rdr B w r (.slice a n c) s 0) (hq:q≠0) (hp:∀W,Below w.heap.size w W->Calls Tryz.prog 56 #[.slice a n c] W (Cy (.stop q) W)) :
   Calls Tryz.prog 34 #[.pointer (some ⟨r,0,none⟩)] w fun e w' => e=.returned (.tuple #[.agg Fs.toArray,.bool false,.int .i64 (q:Int)])/\Rdr B w' r (.slice none 0 0) ⟨#[]⟩ q/\Fr (fun k=>k=r) w w' := by
 have hqb:((q:Int) == 0)=false:=by simp;omega
 have hqn:((q:Int) != 0)=true:=by simp [bne,hqb]
 replace hq:=Hd hq;obtain ⟨W1,hW1⟩:∃W1,W1=w.alloc (.cells #[.int .i64 0,.string ⟨#[]⟩,.int .i64 0,.float .f64 0,.bool false,.slice none 0 0] 40):=⟨_,rfl⟩;have hb1:Below w.heap.size w W1:=by rw [hW1];exact (Below.refl _ _).alloc (Nat.le_refl _) _
 have r1:W1.rangeAt w.heap.size 0 [.int .i64 0,.string ⟨#[]⟩,.int .i64 0,.float .f64 0,.bool false,.slice none 0 0]:=by
   rw [hW1];intro j y hj;rw [Nat.zero_add,World.cell?_alloc_new];simpa using hj
 have k1:Blk W1 w.heap.size:=by rw [hW1];exact Blk.new _ _ _
 have c0:=Aa hb1 _ _ h.c0;have c1:=Aa hb1 _ _ h.c1;have hM:r<w.heap.size:=h.blk.lt;replace h:=Hd h;replace hW1:=Hd hW1;replace hp:=Hd hp;replace k1:=Hd k1;replace r1:=Hd r1
 go_enter Tryz.func34,Tryz.ntmps34
 go_upto_region 1 with fail
 rw [<-hW1.out];go_wp2_with fail
 refine (hp.out W1 hb1).mono ?_;intro e W2 he;unfold Cy at he
 (obtain ⟨rfl,hb2⟩:=he)
 have hb12:=Hd (hb1.trans (hb2.mono hb1.size));have hv:=Hd (Cw W2 40 [.int .i64 0,.string ⟨#[]⟩,.int .i64 0,.float .f64 0,.bool false,.slice none 0 0] rfl);have hth:=Hd (Bj W2 40);clear c0 c1;replace hb1:=Hd hb1;replace hb2:=Hd hb2;go_upto_region 4 with fail
 obtain ⟨W3,hW3⟩:∃W3,W3=W2.alloc (.cells #[.int .i64 0,.string ⟨#[]⟩,.int .i64 0,.float .f64 0,.bool false,.slice none 0 0] 40):=⟨_,rfl⟩;have hb3:Below w.heap.size w W3:=hb12.out.trans (by rw [hW3];exact ((Below.refl _ _).alloc (Nat.le_refl _) _).mono hb12.out.size);have hb13:Below W1.heap.size W1 W3:=hb2.out.trans (by rw [hW3];exact ((Below.refl _ _).alloc (Nat.le_refl _) _).mono hb2.out.size);rw [<-hW3];have c0:=Aa hb3 _ _ h.out.c0;have c1:=Aa hb3 _ _ h.out.c1;have kr:=h.out.blk.of_block (hb3.block _ hM);have f0:=kr.frz 0 none;have f1:=kr.frz 1 none;have r3:W3.rangeAt w.heap.size 0 [.int .i64 0,.string ⟨#[]⟩,.int .i64 0,.float .f64 0,.bool false,.slice none 0 0]:=fun j y hj=>Aa hb13 _ _ (r1.out j y hj);have k3:Blk W3 w.heap.size:=k1.out.of_block (hb13.block _ k1.out.lt);replace hW3:=Hd hW3;replace hb3:=Hd hb3;replace hb13:=Hd hb13;replace kr:=Hd kr;replace r3:=Hd r3;replace k3:=Hd k3
 go_upto_region 6 with fail
 obtain ⟨W5,hW5⟩:∃W5,W5=(W3.setCell ⟨r,0,none⟩ (.slice none 0 0)).setCell ⟨r,1,none⟩ (.int .i64 (q:Int)):=⟨_,rfl⟩;rw [<-hW5];have hf5:Fr (fun k=>k=r) W3 W5:=by rw [hW5];exact Fr.setCell (S:=fun k=>k=r) (Fr.setCell (S:=fun k=>k=r) (Fr.refl _ _) (fun _=>rfl) _) (fun _=>rfl) _
 have hMr:¬w.heap.size=r:=by omega
 have d0:W5.cell? ⟨r,0,none⟩=some (.slice none 0 0):=by rw [hW5,Ab (by simp)];exact Af c0
 have d1:W5.cell? ⟨r,1,none⟩=some (.int .i64 (q:Int)):=by rw [hW5];exact Af (by rw [Ab (by simp)];exact c1)
 have kr5:Blk W5 r:=by rw [hW5];exact (kr.out.setCell _ _).setCell _ _
 have r5:W5.rangeAt w.heap.size 0 [.int .i64 0,.string ⟨#[]⟩,.int .i64 0,.float .f64 0,.bool false,.slice none 0 0]:=fun j y hj=>hf5.cell (r3.out j y hj) hMr;have k5:Blk W5 w.heap.size:=k3.out.fr hf5 hMr;have ht5:=At (n:=6) r5 k5 rfl;have hf06:Fr (fun k=>k=r) w W5:=((Fr.of_below hb3.out).mono (fun i hi h=>absurd hi (Nat.not_lt_of_le h))).trans_new hf5 (fun i hi e=>e);clear c0 c1 f0 f1;have hfw:Fr (fun k=>k=w.heap.size) W5 (W5.setCells w.heap.size 0 [.int .i64 0,.string ⟨#[]⟩,.int .i64 0,.float .f64 0,.bool false,.slice none 0 0]):=Fr.setCells (S:=fun k=>k=w.heap.size) (fun _=>rfl) _ _ _ (Fr.refl _ _);have hrs:=Hd (World.rangeAt_setCells_same _ _ _ [Value.int .i64 0,.string ⟨#[]⟩,.int .i64 0,.float .f64 0,.bool false,.slice none 0 0] ht5)
 have hff:Fr (fun k=>k=r) w (W5.setCells w.heap.size 0 [.int .i64 0,.string ⟨#[]⟩,.int .i64 0,.float .f64 0,.bool false,.slice none 0 0]):=hf06.trans_new hfw (fun i hi e=>by omega);have hrd:Rdr B (W5.setCells w.heap.size 0 [.int .i64 0,.string ⟨#[]⟩,.int .i64 0,.float .f64 0,.bool false,.slice none 0 0]) r (.slice none 0 0) ⟨#[]⟩ q:=
   ⟨hfw.cell d0 (by show ¬r=w.heap.size;omega),hfw.cell d1 (by show ¬r=w.heap.size;omega),kr5.fr hfw (by omega),Buf.nil _ _,h.out.lt,Nat.le_trans h.out.le hff.size⟩
 replace hW5:=Hd hW5;replace ht5:=Hd ht5;replace hff:=Hd hff;replace hrd:=Hd hrd;clear hf5 d0 d1 kr5 r5 k5 hf06 hfw;go_wp2_with (refine wpList_store_mid rfl 40 _ _ rfl w.heap.size 0 _ rfl rfl ht5.out Ai (one6 _ _ _ _ _ _ _ _) ?_)
 have e0:=hrs.out 0 _ rfl;have e1:=hrs.out 1 _ rfl;have e2:=hrs.out 2 _ rfl;have e3:=hrs.out 3 _ rfl;have e4:=hrs.out 4 _ rfl;have e5:=hrs.out 5 _ rfl;simp only [Nat.zero_add] at e0 e1 e2 e3 e4 e5;refine bodyPost_ret (v:=.tuple #[.agg Fs.toArray,.bool false,.int .i64 (q:Int)]) (by simp [results,Tryz.results34,go_sem,e0,e1,e2,e3,e4,e5,Fs]) rfl ?_;exact ⟨rfl,hrd.out,hff.out⟩
theorem bytes_from (a:Option Addr) (n c l:Nat) (h:l<=n) (W:World):(Instr.slice 32 (.slice a n c) (some (.int .i64 (l:Int))) none none).run Tryz.prog W=.ok (sliced a l n c 1) W:=by
 have hz:(sizeOf (Tryz.prog.elem 32)).run Tryz.prog W=.ok 1 W:=by kernel_rfl
 rw [run_slice_l W _ _ _ _ (by kernel_rfl) _ _ (by omega) (by omega),hz];rfl
theorem own_sliced {a:Option Addr} {l n c n' c' k:Nat} (h:(sliced a l n c 1).ownBlock=some k):(Value.slice a n' c').ownBlock=some k:=by
 unfold sliced at h;split at h
 · cases a<;>exact h
 · cases a with
   | none=>cases h
   | some ad=>
     have e:(ad.add (l * 1)).block=k:=by simpa [Value.ownBlock] using h
     have e2:(ad.add (l * 1)).block=ad.block:=by unfold Addr.add;split<;>rfl
     rw [e2] at e;show some ad.block=some k;rw [e]
set_option maxRecDepth 100000 in
set_option maxHeartbeats 3200000 in
theorem F5 {B r n c u ln rl:Nat} {a:Option Addr} {kd it:Int} {tx:ByteArray} {fl:Bool} {w:World} {s:ByteArray} {X:Option Addr->Nat->World->World->Prop} (h:Rdr B w r (.slice a n c) s 0) (hu:u<=s.size) (hbig:s.size<=1000000000)
   (hp:∀W,Below w.heap.size w W->Calls Tryz.prog 56 #[.slice a n c] W fun e w' => ∃la lc,e=.returned (.tuple #[.agg #[.int .i64 kd,.string tx,.int .i64 it,.float .f64 rl,.bool fl,.slice la ln lc],.int .i64 (u:Int),.int .i64 0])/\X la lc W w' /\ Below W.heap.size W w') :
   Calls Tryz.prog 34 #[.pointer (some ⟨r,0,none⟩)] w fun e w' => ∃la lc W1 W2,e=.returned (.tuple #[.agg #[.int .i64 kd,.string tx,.int .i64 it,.float .f64 rl,.bool fl,.slice la ln lc],.bool (decide (0<u)),.int .i64 0])/\X la lc W1 W2 /\
     w.heap.size<=W1.heap.size/\(∀a v,Aq W1.heap.size W2 a=some v->Aq w.heap.size w' a=some v)/\(∃v', Rdr B w' r v' (s.extract u s.size) 0/\∀k,v'.ownBlock=some k->(Value.slice a n c).ownBlock=some k)/\Fr (fun k=>k=r) w w' := by
 obtain ⟨hn,hdrop⟩:=h.buf.drop hu;have hsl0:=bytes_from a n c u (by omega);obtain ⟨a', n', c', hsl⟩:∃a' n' c', sliced a u n c 1=.slice a' n' c' := ⟨_,_,_,rfl⟩;rw [hsl] at hdrop hsl0;have hsub:∀k,(Value.slice a' n' c').ownBlock=some k->(Value.slice a n c).ownBlock=some k:=fun k hk=>own_sliced (by rw [hsl];exact hk);replace hsub:=Hd hsub;clear hsl;have hub:((0:Int)<(u:Int))=(0<u):=by simp
 have hus:(u:Int)<=1000000000:=by omega
 replace hdrop:=Hd hdrop;clear hn hbig hu;obtain ⟨W1,hW1⟩:∃W1,W1=w.alloc (.cells #[.int .i64 0,.string ⟨#[]⟩,.int .i64 0,.float .f64 0,.bool false,.slice none 0 0] 40):=⟨_,rfl⟩;have hb1:Below w.heap.size w W1:=by rw [hW1];exact (Below.refl _ _).alloc (Nat.le_refl _) _
 have r1:W1.rangeAt w.heap.size 0 [.int .i64 0,.string ⟨#[]⟩,.int .i64 0,.float .f64 0,.bool false,.slice none 0 0]:=by
   rw [hW1];intro j y hj;rw [Nat.zero_add,World.cell?_alloc_new];simpa using hj
 have k1:Blk W1 w.heap.size:=by rw [hW1];exact Blk.new _ _ _
 have c0:=Aa hb1 _ _ h.c0;have c1:=Aa hb1 _ _ h.c1;have hM:r<w.heap.size:=h.blk.lt;replace h:=Hd h;replace hW1:=Hd hW1;replace hp:=Hd hp;replace k1:=Hd k1;replace r1:=Hd r1
 go_enter Tryz.func34,Tryz.ntmps34
 go_upto_region 1 with fail
 rw [<-hW1.out];go_wp2_with fail
 refine (hp.out W1 hb1).mono ?_;rintro e W2 ⟨la,lc,rfl,hX,hb2⟩;have hb12:=Hd (hb1.trans (hb2.mono hb1.size));have hv:=Hd (Cw W2 40 [.int .i64 kd,.string tx,.int .i64 it,.float .f64 rl,.bool fl,.slice la ln lc] rfl);have hth:=Hd (Bj W2 40);clear c0 c1;replace hb1:=Hd hb1;replace hb2:=Hd hb2;replace hX:=Hd hX;have tok1:True:=trivial;go_upto_region 4 with (have _t:=tok1;refine wpList_store_mid rfl 40 _ _ rfl W2.heap.size 0 _ rfl rfl hth.out Ai (one6 _ _ _ _ _ _ _ _) ?_;clear tok1 _t)
 generalize (W2.alloc (.cells #[Value.int .i64 0,.string ⟨#[]⟩,.int .i64 0,.float .f64 0,.bool false,.slice none 0 0] 40)).setCells W2.heap.size 0 [Value.int .i64 kd,.string tx,.int .i64 it,.float .f64 rl,.bool fl,.slice la ln lc]=W3 at hv ⊢;obtain ⟨hb23,rv3,kv3⟩:=hv.out;have hb3:Below w.heap.size w W3:=hb12.out.trans (hb23.mono hb12.out.size);have hb13:Below W1.heap.size W1 W3:=hb2.out.trans (hb23.mono hb2.out.size);have c0:=Aa hb3 _ _ h.out.c0;have c1:=Aa hb3 _ _ h.out.c1;have kr:=h.out.blk.of_block (hb3.block _ hM);have f0:=kr.frz 0 none;have r3:W3.rangeAt w.heap.size 0 [.int .i64 0,.string ⟨#[]⟩,.int .i64 0,.float .f64 0,.bool false,.slice none 0 0]:=fun j y hj=>Aa hb13 _ _ (r1.out j y hj);have k3:Blk W3 w.heap.size:=k1.out.of_block (hb13.block _ k1.out.lt);have hlt1:=k1.out.lt;have hle2:=hb2.out.size;have hw1:=hb1.out.size;clear hv hth;replace hb3:=Hd hb3;replace hb13:=Hd hb13
 replace hb23:=Hd hb23;replace kr:=Hd kr;replace r3:=Hd r3;replace k3:=Hd k3;replace rv3:=Hd rv3;replace kv3:=Hd kv3;go_upto_region 8 with fail
 obtain ⟨W5,hW5⟩:∃W5,W5=W3.setCell ⟨r,0,none⟩ (.slice a' n' c'):=⟨_,rfl⟩;rw [<-hW5];have hf5:Fr (fun k=>k=r) W3 W5:=by rw [hW5];exact Fr.setCell (S:=fun k=>k=r) (Fr.refl _ _) (fun _=>rfl) _
 have hMr:¬w.heap.size=r:=by omega
 have d0:W5.cell? ⟨r,0,none⟩=some (.slice a' n' c'):=by rw [hW5];exact Af c0
 have d1:W5.cell? ⟨r,1,none⟩=some (.int .i64 ((0:Nat):Int)):=hW5 ▸ (by rw [Ab (by simp)];exact c1);have kr5:Blk W5 r:=by rw [hW5];exact kr.out.setCell _ _
 have r5:W5.rangeAt w.heap.size 0 [.int .i64 0,.string ⟨#[]⟩,.int .i64 0,.float .f64 0,.bool false,.slice none 0 0]:=fun j y hj=>hf5.cell (r3.out j y hj) hMr;have k5:Blk W5 w.heap.size:=k3.out.fr hf5 hMr;have rv5:W5.rangeAt W2.heap.size 0 [.int .i64 kd,.string tx,.int .i64 it,.float .f64 rl,.bool fl,.slice la ln lc]:=fun j y hj=>hf5.cell (rv3.out j y hj) (by show ¬W2.heap.size=r;omega);have ht5:=At (n:=6) r5 k5 rfl;have hb5:Buf B W5 (.slice a' n' c') (s.extract u s.size):=(hdrop.out.fr ((Fr.of_below hb3.out).mono (T:=fun _=>False) (fun i hi h=>absurd hi (Nat.not_lt_of_le h))) (fun _ _ h=>h)).fr hf5 (fun k hk e=>by have:=(hdrop.out.block k hk).1;have:=h.out.lt;omega);have hf06:Fr (fun k=>k=r) w W5:=((Fr.of_below hb3.out).mono (fun i hi h=>absurd hi (Nat.not_lt_of_le h))).trans_new hf5 (fun i hi e=>e);clear c0 c1 f0
 have hfw:Fr (fun k=>k=w.heap.size) W5 (W5.setCells w.heap.size 0 [.int .i64 kd,.string tx,.int .i64 it,.float .f64 rl,.bool fl,.slice la ln lc]):=Fr.setCells (S:=fun k=>k=w.heap.size) (fun _=>rfl) _ _ _ (Fr.refl _ _);have hrs:=Hd (World.rangeAt_setCells_same _ _ _ [Value.int .i64 kd,.string tx,.int .i64 it,.float .f64 rl,.bool fl,.slice la ln lc] ht5);have hff:Fr (fun k=>k=r) w (W5.setCells w.heap.size 0 [.int .i64 kd,.string tx,.int .i64 it,.float .f64 rl,.bool fl,.slice la ln lc]):=hf06.trans_new hfw (fun i hi e=>by omega);have hrd:Rdr B (W5.setCells w.heap.size 0 [.int .i64 kd,.string tx,.int .i64 it,.float .f64 rl,.bool fl,.slice la ln lc]) r (.slice a' n' c') (s.extract u s.size) 0:=
   ⟨hfw.cell d0 (by show ¬r=w.heap.size;omega),hfw.cell d1 (by show ¬r=w.heap.size;omega),kr5.fr hfw (by omega),hb5.fr hfw (fun k hk e=>by have:=(hdrop.out.block k hk).2;omega),h.out.lt,Nat.le_trans h.out.le hff.size⟩
 have hnew:∀a v,Aq W1.heap.size W2 a=some v->Aq w.heap.size (W5.setCells w.heap.size 0 [.int .i64 kd,.string tx,.int .i64 it,.float .f64 rl,.bool fl,.slice la ln lc]) a=some v:=fun a v hv=>by
   obtain ⟨h1,h2⟩:=A5 hv;unfold Aq;rw [if_neg (by omega)];exact hfw.cell (hf5.cell (Aa hb23.out _ _ h1) (by omega)) (by omega)
 replace hW5:=Hd hW5;replace ht5:=Hd ht5;replace hff:=Hd hff;replace hrd:=Hd hrd;replace rv5:=Hd rv5;replace hnew:=Hd hnew;clear hf5 d0 d1 kr5 r5 k5 hf06 hfw hb5;have tok1:True:=trivial;have tok2:True:=trivial
 go_wp2_with (first
   | (have _t:=tok1;refine wpList_load_mid rfl 40 _ rfl W2.heap.size 0 rfl _ _ rv5.out Tryz.underlying40 rfl Ai ?_;clear tok1 _t)
   | (have _t:=tok2;refine wpList_store_mid rfl 40 _ _ rfl w.heap.size 0 _ rfl rfl ht5.out Ai (one6 _ _ _ _ _ _ _ _) ?_;clear tok2 _t))
 have e0:=hrs.out 0 _ rfl;have e1:=hrs.out 1 _ rfl;have e2:=hrs.out 2 _ rfl;have e3:=hrs.out 3 _ rfl;have e4:=hrs.out 4 _ rfl;have e5:=hrs.out 5 _ rfl;simp only [Nat.zero_add] at e0 e1 e2 e3 e4 e5;refine bodyPost_ret (v:=.tuple #[.agg #[.int .i64 kd,.string tx,.int .i64 it,.float .f64 rl,.bool fl,.slice la ln lc],.bool (decide (0<u)),.int .i64 0]) (by simp [results,Tryz.results34,go_sem,e0,e1,e2,e3,e4,e5]) rfl ?_;exact ⟨la,lc,W1,W2,rfl,hX.out,hw1,hnew.out,⟨_,hrd.out,hsub.out⟩,hff.out⟩
end Go.Proofs.YtfaihaoajdcjbaaGreatDoor
