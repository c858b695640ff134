/- The reader: the walk of a value. -/
import Derived.Test.YtfaihaoajdcjbaaGreatDoorJ30
set_option linter.all false
namespace Go.Proofs.YtfaihaoajdcjbaaGreatDoor
open Go.RowKit
theorem Dg {L t:List UInt8} {u:Nat} (h:Bp L=.got (t,u)):t.length<=4200/\t.length+2=u/\u<=L.length:=by
 unfold Bp at h;dsimp only at h;have hl:(L.take 4200).length<=4200:=by rw [List.length_take];omega
 have hl2:(L.take 4200).length<=L.length:=by rw [List.length_take];omega
 have hb:=A2 (L.take 4200) 10;split at h
 · cases h
 · rename_i h3
   split at h
   · cases h
   · rename_i h4
     simp only [Out.got.injEq,Prod.mk.injEq] at h;obtain ⟨h1,h2⟩:=h;rw [<-h1,List.length_take];rcases hb with hb | hb
     · omega
     · exfalso
       have h0:Lib.indexByte (L.take 4200) 10=-1:=by rw [hb];rfl
       exact h4 (by rw [h0];decide)
theorem Bc (c:UInt8) (w:World):Calls Tryz.prog 99 #[.int .u8 (c.toNat:Int)] w fun e w' => e=.returned (.int .i64 (Ae c:Int))/\Below w.heap.size w w' := (kinds_any c w).mono fun e w' ⟨h1,h2⟩=>⟨h1,by rw [h2];exact Below.refl _ _⟩
set_option maxRecDepth 100000 in
set_option maxHeartbeats 3200000 in
theorem value_end {rp:Rp} {w0 w:World} {g b o n cap at_ many:Nat} {s:ByteArray} {d:Int} (h:RS rp w0 w g b o n cap s at_ many) (he:at_=n) :
   Calls Tryz.prog 77 #[.pointer (some ⟨g,0,none⟩),.int .i64 d] w fun e w' => e=Bf 0/\Fr (fun k=>k=g) w w' := by
 have hai:(n:Int)<=(at_:Int):=by omega
 replace he:=Hd he;obtain ⟨W1,hW1⟩:∃W1,W1=w.alloc (.cells #[.int .i64 0,.string ⟨#[]⟩,.int .i64 0,.float .f64 0,.bool false,.slice none 0 0] 40):=⟨_,rfl⟩;have hb1:Below w.heap.size w W1:=by rw [hW1];exact (Below.refl _ _).alloc (Nat.le_refl _) _
 have h1:=h.grow hb1;have hz1:W1.rangeAt w.heap.size 0 [.int .i64 0,.string ⟨#[]⟩,.int .i64 0,.float .f64 0,.bool false,.slice none 0 0]:=by
   rw [hW1];intro q x hq;rw [Nat.zero_add,World.cell?_alloc_new];simpa using hq
 have hk1:Blk W1 w.heap.size:=by rw [hW1];exact Blk.new _ _ _
 have c0:=h1.scan.c0;have c1:=h1.scan.c1;have hgl:g<W1.heap.size:=h1.scan.blk.lt;have hgw:g<w.heap.size:=h.scan.blk.lt;replace hW1:=Hd hW1;replace hb1:=Hd hb1;replace h1:=Hd h1;replace hz1:=Hd hz1;replace hk1:=Hd hk1;replace h:=Hd h
 go_enter Tryz.func77,Tryz.ntmps77
 go_wp2_with fail
 rw [<-hW1.out];refine Ad (by kernel_rfl) (by kernel_rfl) ?_;repeat (go_big_quiet_step ((fail)))
 refine wpQuiet_nil ?_;rintro _ ⟨xq,rfl⟩;have hS:=Ag W1 xq;obtain ⟨W2,hW2⟩:∃W2,W2=grow W1 xq:=⟨_,rfl⟩;rw [<-hW2] at hS ⊢;replace hW2:=Hd hW2;have h2:=Hd (h1.out.grow hS);have hb2:Below w.heap.size w W2:=hb1.out.trans (hS.mono hb1.out.size);have hz2:W2.rangeAt w.heap.size 0 [.int .i64 0,.string ⟨#[]⟩,.int .i64 0,.float .f64 0,.bool false,.slice none 0 0]:=fun q x hq=>by rw [hS.cell (World.block_lt_of_cell? _ _ (hz1.out q x hq))];exact hz1.out q x hq
 have hk2:Blk W2 w.heap.size:=hk1.out.of_block (hS.block _ hk1.out.lt);clear c0 c1 hS;replace hb2:=Hd hb2;replace hz2:=Hd hz2;replace hk2:=Hd hk2;go_wp2_with fail
 refine (Bu _).mono ?_;rintro e w' ⟨rfl,hww⟩;obtain rfl:=hww.symm;exact ⟨rfl,rfl,Ah hb2.out⟩
set_option maxRecDepth 100000 in
set_option maxHeartbeats 3200000 in
theorem value_mark {rp:Rp} {w0 w:World} {g b o n cap at_ many:Nat} {s:ByteArray} {d:Int} {c:UInt8} {L:List UInt8} (h:RS rp w0 w g b o n cap s at_ many) (hL:s.data.toList.drop at_=c :: L) (hk:Ae c=0) :
   Calls Tryz.prog 77 #[.pointer (some ⟨g,0,none⟩),.int .i64 d] w fun e w' => e=Bf 51/\Fr (fun k=>k=g) w w' := by
 have hlt:at_<n:=by
   rcases Nat.lt_or_ge at_ n with hh | hh
   · exact hh
   · rw [List.drop_of_length_le (by rw [<-Am,h.scan.size];exact hh)] at hL;cases hL
 have hai:¬(n:Int)<=(at_:Int):=by omega
 have hai2:(at_:Int)<(n:Int):=by omega
 have hbig:=h.scan.big;obtain ⟨hcel,hL2⟩:w.cell? ⟨b,o+at_,none⟩=some (.int .u8 (c.toNat:Int))/\s.data.toList.drop (at_+1)=L:=by
   have hz:=h.scan.size;have h1:=h.scan.bytes at_ (by omega);have e1:=Lib.data_getElem? s at_ (by omega);have e2:s.data.toList[at_]?=some c:=by
     have:=congrArg (·[0]?) hL
     simp only [List.getElem?_drop,Nat.add_zero] at this;exact this
   rw [e1] at e2;rw [h1,Option.some.inj e2];refine ⟨rfl,?_⟩;rw [<-List.drop_drop,hL];rfl
 have hcb:=World.block_lt_of_cell? _ _ hcel;replace hcb:b<w.heap.size:=hcb;replace hL:=Hd hL;replace hL2:=Hd hL2;replace hcel:=Hd hcel;obtain ⟨W1,hW1⟩:∃W1,W1=w.alloc (.cells #[.int .i64 0,.string ⟨#[]⟩,.int .i64 0,.float .f64 0,.bool false,.slice none 0 0] 40):=⟨_,rfl⟩;have hb1:Below w.heap.size w W1:=by rw [hW1];exact (Below.refl _ _).alloc (Nat.le_refl _) _
 have h1:=h.grow hb1;have hz1:W1.rangeAt w.heap.size 0 [.int .i64 0,.string ⟨#[]⟩,.int .i64 0,.float .f64 0,.bool false,.slice none 0 0]:=by
   rw [hW1];intro q x hq;rw [Nat.zero_add,World.cell?_alloc_new];simpa using hq
 have hk1:Blk W1 w.heap.size:=by rw [hW1];exact Blk.new _ _ _
 have c0:=h1.scan.c0;have c1:=h1.scan.c1;have hgl:g<W1.heap.size:=h1.scan.blk.lt;have hgw:g<w.heap.size:=h.scan.blk.lt;replace hW1:=Hd hW1;replace hb1:=Hd hb1;replace h1:=Hd h1;replace hz1:=Hd hz1;replace hk1:=Hd hk1;replace h:=Hd h
 go_enter Tryz.func77,Tryz.ntmps77
 go_wp2_with fail
 rw [<-hW1.out];refine Ad (by kernel_rfl) (by kernel_rfl) ?_;repeat (go_big_quiet_step ((fail)))
 refine wpQuiet_nil ?_;rintro _ ⟨xq,rfl⟩;have hS:=Ag W1 xq;obtain ⟨W2,hW2⟩:∃W2,W2=grow W1 xq:=⟨_,rfl⟩;rw [<-hW2] at hS ⊢;replace hW2:=Hd hW2;have h2:=Hd (h1.out.grow hS);have hb2:Below w.heap.size w W2:=hb1.out.trans (hS.mono hb1.out.size);have hz2:W2.rangeAt w.heap.size 0 [.int .i64 0,.string ⟨#[]⟩,.int .i64 0,.float .f64 0,.bool false,.slice none 0 0]:=fun q x hq=>by rw [hS.cell (World.block_lt_of_cell? _ _ (hz1.out q x hq))];exact hz1.out q x hq
 have hk2:Blk W2 w.heap.size:=hk1.out.of_block (hS.block _ hk1.out.lt);clear c0 c1 hS;replace hb2:=Hd hb2;replace hz2:=Hd hz2;replace hk2:=Hd hk2;have c0:=h2.out.scan.c0;have c1:=h2.out.scan.c1;have cc:=(hb2.out.cell (p:=⟨b,o+at_,none⟩) hcb).trans hcel.out;have hgl2:g<W2.heap.size:=h2.out.scan.blk.lt;have hbl2:b<W2.heap.size:=Nat.lt_of_lt_of_le hcb hb2.out.size;go_wp2_with fail
 refine Ad (by kernel_rfl) (by kernel_rfl) ?_;repeat (go_big_quiet_step ((go_at_call 99;(with_reducible exact Bb (Bc _ _)))))
 refine wpQuiet_nil ?_;rintro _ ⟨xq,rfl⟩;have hS:=Ag W2 xq;obtain ⟨W3,hW3⟩:∃W3,W3=grow W2 xq:=⟨_,rfl⟩;rw [<-hW3] at hS ⊢;replace hW3:=Hd hW3;have h3:=Hd (h2.out.grow hS);have hb3:Below w.heap.size w W3:=hb2.out.trans (hS.mono hb2.out.size);have hz3:W3.rangeAt w.heap.size 0 [.int .i64 0,.string ⟨#[]⟩,.int .i64 0,.float .f64 0,.bool false,.slice none 0 0]:=fun q x hq=>by rw [hS.cell (World.block_lt_of_cell? _ _ (hz2.out q x hq))];exact hz2.out q x hq
 have hk3:Blk W3 w.heap.size:=hk2.out.of_block (hS.block _ hk2.out.lt);clear c0 c1 hS cc;replace hb3:=Hd hb3;replace hz3:=Hd hz3;replace hk3:=Hd hk3;rw [hk];go_wp2_with fail
 refine (Au _).mono ?_;rintro e w' ⟨rfl,hww⟩;obtain rfl:=hww.symm;exact ⟨rfl,rfl,Ah hb3.out⟩
set_option maxRecDepth 100000 in
set_option maxHeartbeats 3200000 in
theorem value_line {rp:Rp} {w0 w:World} {g b o n cap at_ many q:Nat} {s:ByteArray} {d:Int} {c:UInt8} {L:List UInt8} (h:RS rp w0 w g b o n cap s at_ many) (hL:s.data.toList.drop at_=c :: L) (hk:Ae c≠0) (hl:Bp L=.stop q) :
   Calls Tryz.prog 77 #[.pointer (some ⟨g,0,none⟩),.int .i64 d] w fun e w' => e=Bf q/\Fr (fun k=>k=g) w w' := by
 have hk0:((Ae c:Int) == 0)=false:=by simp;omega
 replace hk:=Hd hk;replace hl:=Hd hl;have hlt:at_<n:=by
   rcases Nat.lt_or_ge at_ n with hh | hh
   · exact hh
   · rw [List.drop_of_length_le (by rw [<-Am,h.scan.size];exact hh)] at hL;cases hL
 have hai:¬(n:Int)<=(at_:Int):=by omega
 have hai2:(at_:Int)<(n:Int):=by omega
 have hbig:=h.scan.big;obtain ⟨hcel,hL2⟩:w.cell? ⟨b,o+at_,none⟩=some (.int .u8 (c.toNat:Int))/\s.data.toList.drop (at_+1)=L:=by
   have hz:=h.scan.size;have h1:=h.scan.bytes at_ (by omega);have e1:=Lib.data_getElem? s at_ (by omega);have e2:s.data.toList[at_]?=some c:=by
     have:=congrArg (·[0]?) hL
     simp only [List.getElem?_drop,Nat.add_zero] at this;exact this
   rw [e1] at e2;rw [h1,Option.some.inj e2];refine ⟨rfl,?_⟩;rw [<-List.drop_drop,hL];rfl
 have hcb:=World.block_lt_of_cell? _ _ hcel;replace hcb:b<w.heap.size:=hcb;replace hL:=Hd hL;replace hL2:=Hd hL2;replace hcel:=Hd hcel;obtain ⟨W1,hW1⟩:∃W1,W1=w.alloc (.cells #[.int .i64 0,.string ⟨#[]⟩,.int .i64 0,.float .f64 0,.bool false,.slice none 0 0] 40):=⟨_,rfl⟩;have hb1:Below w.heap.size w W1:=by rw [hW1];exact (Below.refl _ _).alloc (Nat.le_refl _) _
 have h1:=h.grow hb1;have hz1:W1.rangeAt w.heap.size 0 [.int .i64 0,.string ⟨#[]⟩,.int .i64 0,.float .f64 0,.bool false,.slice none 0 0]:=by
   rw [hW1];intro q x hq;rw [Nat.zero_add,World.cell?_alloc_new];simpa using hq
 have hk1:Blk W1 w.heap.size:=by rw [hW1];exact Blk.new _ _ _
 have c0:=h1.scan.c0;have c1:=h1.scan.c1;have hgl:g<W1.heap.size:=h1.scan.blk.lt;have hgw:g<w.heap.size:=h.scan.blk.lt;replace hW1:=Hd hW1;replace hb1:=Hd hb1;replace h1:=Hd h1;replace hz1:=Hd hz1;replace hk1:=Hd hk1;replace h:=Hd h
 go_enter Tryz.func77,Tryz.ntmps77
 go_wp2_with fail
 rw [<-hW1.out];refine Ad (by kernel_rfl) (by kernel_rfl) ?_;repeat (go_big_quiet_step ((fail)))
 refine wpQuiet_nil ?_;rintro _ ⟨xq,rfl⟩;have hS:=Ag W1 xq;obtain ⟨W2,hW2⟩:∃W2,W2=grow W1 xq:=⟨_,rfl⟩;rw [<-hW2] at hS ⊢;replace hW2:=Hd hW2;have h2:=Hd (h1.out.grow hS);have hb2:Below w.heap.size w W2:=hb1.out.trans (hS.mono hb1.out.size);have hz2:W2.rangeAt w.heap.size 0 [.int .i64 0,.string ⟨#[]⟩,.int .i64 0,.float .f64 0,.bool false,.slice none 0 0]:=fun q x hq=>by rw [hS.cell (World.block_lt_of_cell? _ _ (hz1.out q x hq))];exact hz1.out q x hq
 have hk2:Blk W2 w.heap.size:=hk1.out.of_block (hS.block _ hk1.out.lt);clear c0 c1 hS;replace hb2:=Hd hb2;replace hz2:=Hd hz2;replace hk2:=Hd hk2;have c0:=h2.out.scan.c0;have c1:=h2.out.scan.c1;have cc:=(hb2.out.cell (p:=⟨b,o+at_,none⟩) hcb).trans hcel.out;have hgl2:g<W2.heap.size:=h2.out.scan.blk.lt;have hbl2:b<W2.heap.size:=Nat.lt_of_lt_of_le hcb hb2.out.size;go_wp2_with fail
 refine Ad (by kernel_rfl) (by kernel_rfl) ?_;repeat (go_big_quiet_step ((go_at_call 99;(with_reducible exact Bb (Bc _ _)))))
 refine wpQuiet_nil ?_;rintro _ ⟨xq,rfl⟩;have hS:=Ag W2 xq;obtain ⟨W3,hW3⟩:∃W3,W3=grow W2 xq:=⟨_,rfl⟩;rw [<-hW3] at hS ⊢;replace hW3:=Hd hW3;have h3:=Hd (h2.out.grow hS);have hb3:Below w.heap.size w W3:=hb2.out.trans (hS.mono hb2.out.size);have hz3:W3.rangeAt w.heap.size 0 [.int .i64 0,.string ⟨#[]⟩,.int .i64 0,.float .f64 0,.bool false,.slice none 0 0]:=fun q x hq=>by rw [hS.cell (World.block_lt_of_cell? _ _ (hz2.out q x hq))];exact hz2.out q x hq
 have hk3:Blk W3 w.heap.size:=hk2.out.of_block (hS.block _ hk2.out.lt);clear c0 c1 hS cc;replace hb3:=Hd hb3;replace hz3:=Hd hz3;replace hk3:=Hd hk3;have c1:=h3.out.scan.c1;have fz:=h3.out.scan.blk.frz 1 none;go_wp2_with fail
 have e4:(at_:Int)+1=((at_+1:Nat):Int):=by omega
 rw [e4];have hf4:Fr (fun k=>k=g) w (W3.setCell ⟨g,1,none⟩ (.int .i64 ((at_+1:Nat):Int))):=Fr.setCell (S:=fun k=>k=g) (Ah hb3.out) (fun _=>rfl) _;have h4:RS rp w0 (W3.setCell ⟨g,1,none⟩ (.int .i64 ((at_+1:Nat):Int))) g b o n cap s (at_+1) many:=h3.out.next (Fr.setCell (S:=fun k=>k=g) (Fr.refl _ _) (fun _=>rfl) _) (h3.out.scan.move _) (by omega);have hz4:(W3.setCell ⟨g,1,none⟩ (.int .i64 ((at_+1:Nat):Int))).rangeAt w.heap.size 0 [.int .i64 0,.string ⟨#[]⟩,.int .i64 0,.float .f64 0,.bool false,.slice none 0 0]:=fun q x hq=>by
   rw [Ab (fun e=>by have:=congrArg Addr.block e;simp at this;omega)];exact hz3.out q x hq
 have hk4:Blk (W3.setCell ⟨g,1,none⟩ (.int .i64 ((at_+1:Nat):Int))) w.heap.size:=hk3.out.setCell _ _;generalize W3.setCell ⟨g,1,none⟩ (.int .i64 ((at_+1:Nat):Int))=W4 at *;clear c1 fz e4;replace h4:=Hd h4;replace hf4:=Hd hf4;replace hz4:=Hd hz4;replace hk4:=Hd hk4;have hq:q=51\/q=0:=by
   have:=hl.out;unfold Bp at this;dsimp only at this;split at this
   · left;simpa using this.symm
   · split at this
     · right;simpa using this.symm
     · cases this
 rcases hq with rfl | rfl
 · refine (line_bad h4.out.scan h4.out.le (by rw [hL2.out];exact hl.out)).mono ?_
   rintro e w' ⟨rfl,hb⟩;exact ⟨rfl,rfl,hf4.out.trans_new (Ah (g:=g) hb) (fun i hi h=>h)⟩
 · refine (line_short h4.out.scan h4.out.le (by rw [hL2.out];exact hl.out)).mono ?_
   rintro e w' ⟨rfl,hb⟩;exact ⟨rfl,rfl,hf4.out.trans_new (Ah (g:=g) hb) (fun i hi h=>h)⟩
theorem nilR_any (w:World):Calls Tryz.prog 102 #[] w fun e w' => e=.returned (.agg #[.int .i64 6,.string ⟨#[]⟩,.int .i64 0,.float .f64 0,.bool false,.slice none 0 0])/\Below w.heap.size w w' := by
 have hal:=Hd (fun (o:Obj)=>(Below.refl w.heap.size w).alloc (Nat.le_refl _) o)
 go_enter Tryz.func102,Tryz.ntmps102
 go_wp2;exact bodyPost_ret (v:=.agg #[.int .i64 6,.string ⟨#[]⟩,.int .i64 0,.float .f64 0,.bool false,.slice none 0 0]) (by simp [results,Tryz.results102,go_sem]) rfl ⟨rfl,hal.out _⟩
theorem kindR_tab:∀c:Fin 256,Ae (UInt8.ofNat c.val)<=14:=by decide +kernel
theorem kindR_le (c:UInt8):Ae c<=14:=by
 have:=kindR_tab ⟨c.toNat,c.toNat_lt⟩;simpa using this
set_option maxRecDepth 100000 in
set_option maxHeartbeats 3200000 in
theorem value_nil {rp:Rp} {w0 w:World} {g b o n cap at_ many u:Nat} {s:ByteArray} {d:Int} {c:UInt8} {L:List UInt8} (h:RS rp w0 w g b o n cap s at_ many) (hL:s.data.toList.drop at_=c :: L) (hk:Ae c=4\/Ae c=5) (hl:Bp L=.got ([45,49],u)) :
   Calls Tryz.prog 77 #[.pointer (some ⟨g,0,none⟩),.int .i64 d] w (ValQ rp w0 g b o n cap s at_ (.got (Ay 6 ⟨#[]⟩ 0 0 false,1+u,many)) w):=by
 obtain ⟨kd,hkd⟩:∃kd,kd=Ae c:=⟨_,rfl⟩;rw [<-hkd] at hk;replace hl:=Hd hl;have hlt:at_<n:=by
   rcases Nat.lt_or_ge at_ n with hh | hh
   · exact hh
   · rw [List.drop_of_length_le (by rw [<-Am,h.scan.size];exact hh)] at hL;cases hL
 have hai:¬(n:Int)<=(at_:Int):=by omega
 have hai2:(at_:Int)<(n:Int):=by omega
 have hbig:=h.scan.big;obtain ⟨hcel,hL2⟩:w.cell? ⟨b,o+at_,none⟩=some (.int .u8 (c.toNat:Int))/\s.data.toList.drop (at_+1)=L:=by
   have hz:=h.scan.size;have h1:=h.scan.bytes at_ (by omega);have e1:=Lib.data_getElem? s at_ (by omega);have e2:s.data.toList[at_]?=some c:=by
     have:=congrArg (·[0]?) hL
     simp only [List.getElem?_drop,Nat.add_zero] at this;exact this
   rw [e1] at e2;rw [h1,Option.some.inj e2];refine ⟨rfl,?_⟩;rw [<-List.drop_drop,hL];rfl
 have hcb:=World.block_lt_of_cell? _ _ hcel;replace hcb:b<w.heap.size:=hcb;replace hL:=Hd hL;replace hL2:=Hd hL2;replace hcel:=Hd hcel;obtain ⟨W1,hW1⟩:∃W1,W1=w.alloc (.cells #[.int .i64 0,.string ⟨#[]⟩,.int .i64 0,.float .f64 0,.bool false,.slice none 0 0] 40):=⟨_,rfl⟩;have hb1:Below w.heap.size w W1:=by rw [hW1];exact (Below.refl _ _).alloc (Nat.le_refl _) _
 have h1:=h.grow hb1;have hz1:W1.rangeAt w.heap.size 0 [.int .i64 0,.string ⟨#[]⟩,.int .i64 0,.float .f64 0,.bool false,.slice none 0 0]:=by
   rw [hW1];intro q x hq;rw [Nat.zero_add,World.cell?_alloc_new];simpa using hq
 have hk1:Blk W1 w.heap.size:=by rw [hW1];exact Blk.new _ _ _
 have c0:=h1.scan.c0;have c1:=h1.scan.c1;have hgl:g<W1.heap.size:=h1.scan.blk.lt;have hgw:g<w.heap.size:=h.scan.blk.lt;replace hW1:=Hd hW1;replace hb1:=Hd hb1;replace h1:=Hd h1;replace hz1:=Hd hz1;replace hk1:=Hd hk1;replace h:=Hd h
 go_enter Tryz.func77,Tryz.ntmps77
 go_wp2_with fail
 rw [<-hW1.out];refine Ad (by kernel_rfl) (by kernel_rfl) ?_;repeat (go_big_quiet_step ((fail)))
 refine wpQuiet_nil ?_;rintro _ ⟨xq,rfl⟩;have hS:=Ag W1 xq;obtain ⟨W2,hW2⟩:∃W2,W2=grow W1 xq:=⟨_,rfl⟩;rw [<-hW2] at hS ⊢;replace hW2:=Hd hW2;have h2:=Hd (h1.out.grow hS);have hb2:Below w.heap.size w W2:=hb1.out.trans (hS.mono hb1.out.size);have hz2:W2.rangeAt w.heap.size 0 [.int .i64 0,.string ⟨#[]⟩,.int .i64 0,.float .f64 0,.bool false,.slice none 0 0]:=fun q x hq=>by rw [hS.cell (World.block_lt_of_cell? _ _ (hz1.out q x hq))];exact hz1.out q x hq
 have hk2:Blk W2 w.heap.size:=hk1.out.of_block (hS.block _ hk1.out.lt);clear c0 c1 hS;replace hb2:=Hd hb2;replace hz2:=Hd hz2;replace hk2:=Hd hk2;have c0:=h2.out.scan.c0;have c1:=h2.out.scan.c1;have cc:=(hb2.out.cell (p:=⟨b,o+at_,none⟩) hcb).trans hcel.out;have hgl2:g<W2.heap.size:=h2.out.scan.blk.lt;have hbl2:b<W2.heap.size:=Nat.lt_of_lt_of_le hcb hb2.out.size;go_wp2_with fail
 refine Ad (by kernel_rfl) (by kernel_rfl) ?_;repeat (go_big_quiet_step ((go_at_call 99;(with_reducible exact Bb (Bc _ _)))))
 refine wpQuiet_nil ?_;rintro _ ⟨xq,rfl⟩;have hS:=Ag W2 xq;obtain ⟨W3,hW3⟩:∃W3,W3=grow W2 xq:=⟨_,rfl⟩;rw [<-hW3] at hS ⊢;replace hW3:=Hd hW3;have h3:=Hd (h2.out.grow hS);have hb3:Below w.heap.size w W3:=hb2.out.trans (hS.mono hb2.out.size);have hz3:W3.rangeAt w.heap.size 0 [.int .i64 0,.string ⟨#[]⟩,.int .i64 0,.float .f64 0,.bool false,.slice none 0 0]:=fun q x hq=>by rw [hS.cell (World.block_lt_of_cell? _ _ (hz2.out q x hq))];exact hz2.out q x hq
 have hk3:Blk W3 w.heap.size:=hk2.out.of_block (hS.block _ hk2.out.lt);clear c0 c1 hS cc;replace hb3:=Hd hb3;replace hz3:=Hd hz3;replace hk3:=Hd hk3;rw [<-hkd];have hk0:((kd:Int) == 0)=false:=by simp;omega
 replace hkd:=Hd hkd;have c1:=h3.out.scan.c1;have fz:=h3.out.scan.blk.frz 1 none;go_wp2_with fail
 have e4:(at_:Int)+1=((at_+1:Nat):Int):=by omega
 rw [e4];have hf4:Fr (fun k=>k=g) w (W3.setCell ⟨g,1,none⟩ (.int .i64 ((at_+1:Nat):Int))):=Fr.setCell (S:=fun k=>k=g) (Ah hb3.out) (fun _=>rfl) _;have h4:RS rp w0 (W3.setCell ⟨g,1,none⟩ (.int .i64 ((at_+1:Nat):Int))) g b o n cap s (at_+1) many:=h3.out.next (Fr.setCell (S:=fun k=>k=g) (Fr.refl _ _) (fun _=>rfl) _) (h3.out.scan.move _) (by omega);have hz4:(W3.setCell ⟨g,1,none⟩ (.int .i64 ((at_+1:Nat):Int))).rangeAt w.heap.size 0 [.int .i64 0,.string ⟨#[]⟩,.int .i64 0,.float .f64 0,.bool false,.slice none 0 0]:=fun q x hq=>by
   rw [Ab (fun e=>by have:=congrArg Addr.block e;simp at this;omega)];exact hz3.out q x hq
 have hk4:Blk (W3.setCell ⟨g,1,none⟩ (.int .i64 ((at_+1:Nat):Int))) w.heap.size:=hk3.out.setCell _ _;generalize W3.setCell ⟨g,1,none⟩ (.int .i64 ((at_+1:Nat):Int))=W4 at *;clear c1 fz e4;replace h4:=Hd h4;replace hf4:=Hd hf4;replace hz4:=Hd hz4;replace hk4:=Hd hk4;refine (Cm h4.out.scan h4.out.le (by rw [hL2.out];exact hl.out)).mono ?_;rintro e W6 ⟨rfl,hf6,hs6,hle6⟩;have h6:=Hd (h4.out.next hf6 hs6 hle6);have hf06:=Hd (hf4.out.trans hf6);have hne6:¬w.heap.size=g:=by omega
 have hz6:W6.rangeAt w.heap.size 0 [.int .i64 0,.string ⟨#[]⟩,.int .i64 0,.float .f64 0,.bool false,.slice none 0 0]:=fun q x hq=>hf6.cell (hz4.out q x hq) hne6;have hk6:Blk W6 w.heap.size:=hk4.out.fr hf6 hne6;clear hf6 hs6 hle6;replace hz6:=Hd hz6;replace hk6:=Hd hk6;rcases hk with rfl | rfl
 all_goals
   go_wp2_with fail
   refine (nilR_any _).mono ?_
   rintro e W7 ⟨rfl,hb⟩
   have h7:=Hd (h6.out.grow hb)
   have hf7:=Hd (hf06.out.trans (Ah (g:=g) hb))
   have hz7:W7.rangeAt w.heap.size 0 [.int .i64 0,.string ⟨#[]⟩,.int .i64 0,.float .f64 0,.bool false,.slice none 0 0]:=fun q x hq=>by rw [(hb).cell (World.block_lt_of_cell? _ _ (hz6.out q x hq))];exact hz6.out q x hq
   have hk7:Blk W7 w.heap.size:=hk6.out.of_block ((hb).block _ hk6.out.lt)
   replace hz7:=Hd hz7
   replace hk7:=Hd hk7
   clear hb
   have htC:=At (n:=6) hz7.out hk7.out rfl
   have hrR:(W7.setCells w.heap.size 0 [.int .i64 6,.string (⟨#[]⟩:ByteArray),.int .i64 0,.float .f64 0,.bool false,.slice none 0 0]).rangeAt w.heap.size 0 [.int .i64 6,.string (⟨#[]⟩:ByteArray),.int .i64 0,.float .f64 0,.bool false,.slice none 0 0]:=World.rangeAt_setCells_same _ _ _ _ htC
   have hfw:Fr (fun k=>k=w.heap.size) W7 (W7.setCells w.heap.size 0 [.int .i64 6,.string (⟨#[]⟩:ByteArray),.int .i64 0,.float .f64 0,.bool false,.slice none 0 0]):=Fr.setCells (S:=fun k=>k=w.heap.size) (fun _=>rfl) _ _ _ (Fr.refl _ _)
   have hff:=Hd (hf7.out.trans_new hfw (fun i hi e=>by omega))
   have hrs:RS rp w0 (W7.setCells w.heap.size 0 [.int .i64 6,.string (⟨#[]⟩:ByteArray),.int .i64 0,.float .f64 0,.bool false,.slice none 0 0]) g b o n cap s _ many:=⟨h7.out.scan.fr hfw (by omega) (by omega),h7.out.env,h7.out.below.trans (hfw.below h7.out.below.size (fun i hi e=>by have:=h7.out.below.size;have:=h7.out.base;omega)),h7.out.base,h7.out.le⟩
   replace htC:=Hd htC
   replace hrR:=Hd hrR
   replace hrs:=Hd hrs
   clear hfw
   go_wp2_with (refine wpList_store_mid rfl 40 _ _ rfl w.heap.size 0 _ rfl rfl htC.out Ai (one6 _ _ _ _ _ _ _ _) ?_)
   refine bodyPost_ret (Ax (v:=.agg #[.int .i64 6,.string (⟨#[]⟩:ByteArray),.int .i64 0,.float .f64 0,.bool false,.slice none 0 0]) rfl rfl (run_loadVar_mid (P:=Tryz.prog) _ _ 0 40 _ _ hrR.out Tryz.underlying40 rfl Ai)) rfl ?_
   exact ⟨none,0,rfl,RV.leaf _ _ _ _ _ _ _ _,hff.out,by rw [show at_+(1+u)=at_+1+u by omega];exact hrs.out⟩
set_option maxRecDepth 100000 in
set_option maxHeartbeats 6400000 in
theorem Eh {rp:Rp} {w0 w:World} {g b o n cap at_ many u most:Nat} {s:ByteArray} {d:Int} {c:UInt8} {t L:List UInt8} (h:RS rp w0 w g b o n cap s at_ many) (hL:s.data.toList.drop at_=c :: L)
   (hk:(most=4096/\(Ae c=4\/Ae c=10\/Ae c=11))\/(most=1000/\(Ae c=5\/Ae c=13\/Ae c=14\/Ae c=12))) (hl:Bp L=.got (t,u)) (hn:¬(t=[45,49]/\(Ae c=4\/Ae c=5))) (hm:numS t most=none) :
   Calls Tryz.prog 77 #[.pointer (some ⟨g,0,none⟩),.int .i64 d] w fun e w' => e=Bf 51/\Fr (fun k=>k=g) w w' := by
 obtain ⟨kd,hkd⟩:∃kd,kd=Ae c:=⟨_,rfl⟩;rw [<-hkd] at hk hn;have hts:(⟨t.toArray⟩:ByteArray).size<=1000000:=by
   have:=Dg hl;rw [Am];show t.length<=_;omega
 have hmm:most<=100000:=by omega
 have hno:=fun W (hN:Nums W)=>number_no (w:=W) (t:=⟨t.toArray⟩) hts hmm hN hm;have htl:((⟨t.toArray⟩:ByteArray).toList == [45,49])=decide (t=[45,49]):=by
   rw [ByteArray.toList_eq];show (t == [45,49])=_;rw [Bool.eq_iff_iff,beq_iff_eq,decide_eq_true_eq]
 replace hl:=Hd hl;have hlt:at_<n:=by
   rcases Nat.lt_or_ge at_ n with hh | hh
   · exact hh
   · rw [List.drop_of_length_le (by rw [<-Am,h.scan.size];exact hh)] at hL;cases hL
 have hai:¬(n:Int)<=(at_:Int):=by omega
 have hai2:(at_:Int)<(n:Int):=by omega
 have hbig:=h.scan.big;obtain ⟨hcel,hL2⟩:w.cell? ⟨b,o+at_,none⟩=some (.int .u8 (c.toNat:Int))/\s.data.toList.drop (at_+1)=L:=by
   have hz:=h.scan.size;have h1:=h.scan.bytes at_ (by omega);have e1:=Lib.data_getElem? s at_ (by omega);have e2:s.data.toList[at_]?=some c:=by
     have:=congrArg (·[0]?) hL
     simp only [List.getElem?_drop,Nat.add_zero] at this;exact this
   rw [e1] at e2;rw [h1,Option.some.inj e2];refine ⟨rfl,?_⟩;rw [<-List.drop_drop,hL];rfl
 have hcb:=World.block_lt_of_cell? _ _ hcel;replace hcb:b<w.heap.size:=hcb;replace hL:=Hd hL;replace hL2:=Hd hL2;replace hcel:=Hd hcel;obtain ⟨W1,hW1⟩:∃W1,W1=w.alloc (.cells #[.int .i64 0,.string ⟨#[]⟩,.int .i64 0,.float .f64 0,.bool false,.slice none 0 0] 40):=⟨_,rfl⟩;have hb1:Below w.heap.size w W1:=by rw [hW1];exact (Below.refl _ _).alloc (Nat.le_refl _) _
 have h1:=h.grow hb1;have hz1:W1.rangeAt w.heap.size 0 [.int .i64 0,.string ⟨#[]⟩,.int .i64 0,.float .f64 0,.bool false,.slice none 0 0]:=by
   rw [hW1];intro q x hq;rw [Nat.zero_add,World.cell?_alloc_new];simpa using hq
 have hk1:Blk W1 w.heap.size:=by rw [hW1];exact Blk.new _ _ _
 have c0:=h1.scan.c0;have c1:=h1.scan.c1;have hgl:g<W1.heap.size:=h1.scan.blk.lt;have hgw:g<w.heap.size:=h.scan.blk.lt;replace hW1:=Hd hW1;replace hb1:=Hd hb1;replace h1:=Hd h1;replace hz1:=Hd hz1;replace hk1:=Hd hk1;replace h:=Hd h
 go_enter Tryz.func77,Tryz.ntmps77
 go_wp2_with fail
 rw [<-hW1.out];refine Ad (by kernel_rfl) (by kernel_rfl) ?_;repeat (go_big_quiet_step ((fail)))
 refine wpQuiet_nil ?_;rintro _ ⟨xq,rfl⟩;have hS:=Ag W1 xq;obtain ⟨W2,hW2⟩:∃W2,W2=grow W1 xq:=⟨_,rfl⟩;rw [<-hW2] at hS ⊢;replace hW2:=Hd hW2;have h2:=Hd (h1.out.grow hS);have hb2:Below w.heap.size w W2:=hb1.out.trans (hS.mono hb1.out.size);have hz2:W2.rangeAt w.heap.size 0 [.int .i64 0,.string ⟨#[]⟩,.int .i64 0,.float .f64 0,.bool false,.slice none 0 0]:=fun q x hq=>by rw [hS.cell (World.block_lt_of_cell? _ _ (hz1.out q x hq))];exact hz1.out q x hq
 have hk2:Blk W2 w.heap.size:=hk1.out.of_block (hS.block _ hk1.out.lt);clear c0 c1 hS;replace hb2:=Hd hb2;replace hz2:=Hd hz2;replace hk2:=Hd hk2;have c0:=h2.out.scan.c0;have c1:=h2.out.scan.c1;have cc:=(hb2.out.cell (p:=⟨b,o+at_,none⟩) hcb).trans hcel.out;have hgl2:g<W2.heap.size:=h2.out.scan.blk.lt;have hbl2:b<W2.heap.size:=Nat.lt_of_lt_of_le hcb hb2.out.size;go_wp2_with fail
 refine Ad (by kernel_rfl) (by kernel_rfl) ?_;repeat (go_big_quiet_step ((go_at_call 99;(with_reducible exact Bb (Bc _ _)))))
 refine wpQuiet_nil ?_;rintro _ ⟨xq,rfl⟩;have hS:=Ag W2 xq;obtain ⟨W3,hW3⟩:∃W3,W3=grow W2 xq:=⟨_,rfl⟩;rw [<-hW3] at hS ⊢;replace hW3:=Hd hW3;have h3:=Hd (h2.out.grow hS);have hb3:Below w.heap.size w W3:=hb2.out.trans (hS.mono hb2.out.size);have hz3:W3.rangeAt w.heap.size 0 [.int .i64 0,.string ⟨#[]⟩,.int .i64 0,.float .f64 0,.bool false,.slice none 0 0]:=fun q x hq=>by rw [hS.cell (World.block_lt_of_cell? _ _ (hz2.out q x hq))];exact hz2.out q x hq
 have hk3:Blk W3 w.heap.size:=hk2.out.of_block (hS.block _ hk2.out.lt);clear c0 c1 hS cc;replace hb3:=Hd hb3;replace hz3:=Hd hz3;replace hk3:=Hd hk3;rw [<-hkd];have hk0:((kd:Int) == 0)=false:=by simp;omega
 replace hkd:=Hd hkd;have c1:=h3.out.scan.c1;have fz:=h3.out.scan.blk.frz 1 none;go_wp2_with fail
 have e4:(at_:Int)+1=((at_+1:Nat):Int):=by omega
 rw [e4];have hf4:Fr (fun k=>k=g) w (W3.setCell ⟨g,1,none⟩ (.int .i64 ((at_+1:Nat):Int))):=Fr.setCell (S:=fun k=>k=g) (Ah hb3.out) (fun _=>rfl) _;have h4:RS rp w0 (W3.setCell ⟨g,1,none⟩ (.int .i64 ((at_+1:Nat):Int))) g b o n cap s (at_+1) many:=h3.out.next (Fr.setCell (S:=fun k=>k=g) (Fr.refl _ _) (fun _=>rfl) _) (h3.out.scan.move _) (by omega);have hz4:(W3.setCell ⟨g,1,none⟩ (.int .i64 ((at_+1:Nat):Int))).rangeAt w.heap.size 0 [.int .i64 0,.string ⟨#[]⟩,.int .i64 0,.float .f64 0,.bool false,.slice none 0 0]:=fun q x hq=>by
   rw [Ab (fun e=>by have:=congrArg Addr.block e;simp at this;omega)];exact hz3.out q x hq
 have hk4:Blk (W3.setCell ⟨g,1,none⟩ (.int .i64 ((at_+1:Nat):Int))) w.heap.size:=hk3.out.setCell _ _;generalize W3.setCell ⟨g,1,none⟩ (.int .i64 ((at_+1:Nat):Int))=W4 at *;clear c1 fz e4;replace h4:=Hd h4;replace hf4:=Hd hf4;replace hz4:=Hd hz4;replace hk4:=Hd hk4;refine (Cm h4.out.scan h4.out.le (by rw [hL2.out];exact hl.out)).mono ?_;rintro e W6 ⟨rfl,hf6,hs6,hle6⟩;have h6:=Hd (h4.out.next hf6 hs6 hle6);have hf06:=Hd (hf4.out.trans hf6);have hne6:¬w.heap.size=g:=by omega
 have hz6:W6.rangeAt w.heap.size 0 [.int .i64 0,.string ⟨#[]⟩,.int .i64 0,.float .f64 0,.bool false,.slice none 0 0]:=fun q x hq=>hf6.cell (hz4.out q x hq) hne6;have hk6:Blk W6 w.heap.size:=hk4.out.fr hf6 hne6;clear hf6 hs6 hle6;replace hz6:=Hd hz6;replace hk6:=Hd hk6;have hno6:=Hd (hno _ h6.out.nums);generalize (⟨t.toArray⟩:ByteArray)=T at *;clear hno hts;by_cases ht:t=[45,49]
 · rw [decide_eq_true ht] at htl
   rcases hk with ⟨rfl,rfl | rfl | rfl⟩ | ⟨rfl,rfl | rfl | rfl | rfl⟩;all_goals first | exact absurd ⟨ht,.inl rfl⟩ hn | exact absurd ⟨ht,.inr rfl⟩ hn | skip
   all_goals
     clear hn
     go_wp2_with fail
     refine hno6.out.mono ?_
     rintro e w' ⟨rfl,hb⟩
     exact ⟨rfl,rfl,hf06.out.trans (Ah (g:=g) hb)⟩
 · rw [decide_eq_false ht] at htl
   replace ht:=Hd ht;rcases hk with ⟨rfl,rfl | rfl | rfl⟩ | ⟨rfl,rfl | rfl | rfl | rfl⟩
   all_goals
     clear hn
     go_wp2_with fail
     refine hno6.out.mono ?_
     rintro e w' ⟨rfl,hb⟩
     exact ⟨rfl,rfl,hf06.out.trans (Ah (g:=g) hb)⟩
end Go.Proofs.YtfaihaoajdcjbaaGreatDoor
