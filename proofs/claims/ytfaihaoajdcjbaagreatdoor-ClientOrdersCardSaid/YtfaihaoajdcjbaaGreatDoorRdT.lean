/- The reader: texts with their length. -/
import Derived.Test.YtfaihaoajdcjbaaGreatDoorRdW2
set_option linter.all false
namespace Go.Proofs.YtfaihaoajdcjbaaGreatDoor
open Go.RowKit
theorem long_len {L x:List UInt8} {k:Nat} (h:Dq L k=.got x):x.length=k:=by
 unfold Dq at h;split at h
 · cases h
 · split at h
   · cases h
   · simp only [Out.got.injEq] at h
     rw [<-h,List.length_take];omega
theorem D4 {t:List UInt8} {most k:Nat} (h:numS t most=some k):k<=most:=by
 unfold numS at h;split at h
 · split at h
   · have:=Option.some.inj h;omega
   · cases h
 · cases h
set_option maxRecDepth 100000 in
set_option maxHeartbeats 6400000 in
theorem value_lstop {rp:Rp} {w0 w:World} {g b o n cap at_ many u q len:Nat} {s:ByteArray} {d:Int} {c:UInt8} {t L:List UInt8} (h:RS rp w0 w g b o n cap s at_ many) (hL:s.data.toList.drop at_=c :: L)
   (hk:Ae c=4\/Ae c=10\/Ae c=11) (hl:Bp L=.got (t,u)) (hn:¬(t=[45,49]/\(Ae c=4\/Ae c=5))) (hm:numS t 4096=some len) (hlo:Dq (L.drop u) len=.stop q) :
   Calls Tryz.prog 77 #[.pointer (some ⟨g,0,none⟩),.int .i64 d] w fun e w' => e=Bf q/\Fr (fun k=>k=g) w w' := by
 have hle:len<=4096:=D4 hm;obtain ⟨kd,hkd⟩:∃kd,kd=Ae c:=⟨_,rfl⟩;rw [<-hkd] at hk hn;have hlen:=Dg hl;have hts:(⟨t.toArray⟩:ByteArray).size<=1000000:=by
   rw [Am];show t.length<=_;omega
 have htl:((⟨t.toArray⟩:ByteArray).toList == [45,49])=decide (t=[45,49]):=by
   rw [ByteArray.toList_eq];show (t == [45,49])=_;rw [Bool.eq_iff_iff,beq_iff_eq,decide_eq_true_eq]
 replace hl:=Hd hl;have hlt:at_<n:=by
   rcases Nat.lt_or_ge at_ n with hh | hh
   · exact hh
   · rw [List.drop_of_length_le (by rw [<-Am,h.scan.size];exact hh)] at hL;cases hL
 have hai:¬(n:Int)<=(at_:Int):=by omega
 have hai2:(at_:Int)<(n:Int):=by omega
 have hbig:=h.scan.big;obtain ⟨hcel,hL2⟩:w.cell? ⟨b,o+at_,none⟩=some (.int .u8 (c.toNat:Int))/\s.data.toList.drop (at_+1)=L:=by
   have hz:=h.scan.size;have h1:=h.scan.bytes at_ (by omega);have e1:=Lib.data_getElem? s at_ (by omega);have e2:s.data.toList[at_]?=some c:=by
     have:=congrArg (·[0]?) hL
     simp only [List.getElem?_drop,Nat.add_zero] at this;exact this
   rw [e1] at e2;rw [h1,Option.some.inj e2];refine ⟨rfl,?_⟩;rw [<-List.drop_drop,hL];rfl
 have hcb:=World.block_lt_of_cell? _ _ hcel;replace hcb:b<w.heap.size:=hcb;replace hL:=Hd hL;replace hL2:=Hd hL2;replace hcel:=Hd hcel;obtain ⟨W1,hW1⟩:∃W1,W1=w.alloc (.cells #[.int .i64 0,.string ⟨#[]⟩,.int .i64 0,.float .f64 0,.bool false,.slice none 0 0] 40):=⟨_,rfl⟩;have hb1:Below w.heap.size w W1:=by rw [hW1];exact (Below.refl _ _).alloc (Nat.le_refl _) _
 have h1:=h.grow hb1;have hz1:W1.rangeAt w.heap.size 0 [.int .i64 0,.string ⟨#[]⟩,.int .i64 0,.float .f64 0,.bool false,.slice none 0 0]:=by
   rw [hW1];intro q x hq;rw [Nat.zero_add,World.cell?_alloc_new];simpa using hq
 have hk1:Blk W1 w.heap.size:=by rw [hW1];exact Blk.new _ _ _
 have c0:=h1.scan.c0;have c1:=h1.scan.c1;have hgl:g<W1.heap.size:=h1.scan.blk.lt;have hgw:g<w.heap.size:=h.scan.blk.lt;replace hW1:=Hd hW1;replace hb1:=Hd hb1;replace h1:=Hd h1;replace hz1:=Hd hz1;replace hk1:=Hd hk1;replace h:=Hd h
 go_enter Tryz.func77,Tryz.ntmps77
 go_wp2_with fail
 rw [<-hW1.out];refine Ad (by kernel_rfl) (by kernel_rfl) ?_;repeat (go_big_quiet_step ((fail)))
 refine wpQuiet_nil ?_;rintro _ ⟨xq,rfl⟩;have hS:=Ag W1 xq;obtain ⟨W2,hW2⟩:∃W2,W2=grow W1 xq:=⟨_,rfl⟩;rw [<-hW2] at hS ⊢;replace hW2:=Hd hW2;have h2:=Hd (h1.out.grow hS);have hb2:Below w.heap.size w W2:=hb1.out.trans (hS.mono hb1.out.size);have hz2:W2.rangeAt w.heap.size 0 [.int .i64 0,.string ⟨#[]⟩,.int .i64 0,.float .f64 0,.bool false,.slice none 0 0]:=fun q x hq=>by rw [hS.cell (World.block_lt_of_cell? _ _ (hz1.out q x hq))];exact hz1.out q x hq
 have hk2:Blk W2 w.heap.size:=hk1.out.of_block (hS.block _ hk1.out.lt);clear c0 c1 hS;replace hb2:=Hd hb2;replace hz2:=Hd hz2;replace hk2:=Hd hk2;have c0:=h2.out.scan.c0;have c1:=h2.out.scan.c1;have cc:=(hb2.out.cell (p:=⟨b,o+at_,none⟩) hcb).trans hcel.out;have hgl2:g<W2.heap.size:=h2.out.scan.blk.lt;have hbl2:b<W2.heap.size:=Nat.lt_of_lt_of_le hcb hb2.out.size;go_wp2_with fail
 refine Ad (by kernel_rfl) (by kernel_rfl) ?_;repeat (go_big_quiet_step ((go_at_call 99;(with_reducible exact Bb (Bc _ _)))))
 refine wpQuiet_nil ?_;rintro _ ⟨xq,rfl⟩;have hS:=Ag W2 xq;obtain ⟨W3,hW3⟩:∃W3,W3=grow W2 xq:=⟨_,rfl⟩;rw [<-hW3] at hS ⊢;replace hW3:=Hd hW3;have h3:=Hd (h2.out.grow hS);have hb3:Below w.heap.size w W3:=hb2.out.trans (hS.mono hb2.out.size);have hz3:W3.rangeAt w.heap.size 0 [.int .i64 0,.string ⟨#[]⟩,.int .i64 0,.float .f64 0,.bool false,.slice none 0 0]:=fun q x hq=>by rw [hS.cell (World.block_lt_of_cell? _ _ (hz2.out q x hq))];exact hz2.out q x hq
 have hk3:Blk W3 w.heap.size:=hk2.out.of_block (hS.block _ hk2.out.lt);clear c0 c1 hS cc;replace hb3:=Hd hb3;replace hz3:=Hd hz3;replace hk3:=Hd hk3;rw [<-hkd];have hk0:((kd:Int) == 0)=false:=by simp;omega
 replace hkd:=Hd hkd;have c1:=h3.out.scan.c1;have fz:=h3.out.scan.blk.frz 1 none;go_wp2_with fail
 have e4:(at_:Int)+1=((at_+1:Nat):Int):=by omega
 rw [e4];have hf4:Fr (fun k=>k=g) w (W3.setCell ⟨g,1,none⟩ (.int .i64 ((at_+1:Nat):Int))):=Fr.setCell (S:=fun k=>k=g) (Ah hb3.out) (fun _=>rfl) _;have h4:RS rp w0 (W3.setCell ⟨g,1,none⟩ (.int .i64 ((at_+1:Nat):Int))) g b o n cap s (at_+1) many:=h3.out.next (Fr.setCell (S:=fun k=>k=g) (Fr.refl _ _) (fun _=>rfl) _) (h3.out.scan.move _) (by omega);have hz4:(W3.setCell ⟨g,1,none⟩ (.int .i64 ((at_+1:Nat):Int))).rangeAt w.heap.size 0 [.int .i64 0,.string ⟨#[]⟩,.int .i64 0,.float .f64 0,.bool false,.slice none 0 0]:=fun q x hq=>by
   rw [Ab (fun e=>by have:=congrArg Addr.block e;simp at this;omega)];exact hz3.out q x hq
 have hk4:Blk (W3.setCell ⟨g,1,none⟩ (.int .i64 ((at_+1:Nat):Int))) w.heap.size:=hk3.out.setCell _ _;generalize W3.setCell ⟨g,1,none⟩ (.int .i64 ((at_+1:Nat):Int))=W4 at *;clear c1 fz e4;replace h4:=Hd h4;replace hf4:=Hd hf4;replace hz4:=Hd hz4;replace hk4:=Hd hk4;refine (Cm h4.out.scan h4.out.le (by rw [hL2.out];exact hl.out)).mono ?_;rintro e W6 ⟨rfl,hf6,hs6,hle6⟩;have h6:=Hd (h4.out.next hf6 hs6 hle6);have hf06:=Hd (hf4.out.trans hf6);have hne6:¬w.heap.size=g:=by omega
 have hz6:W6.rangeAt w.heap.size 0 [.int .i64 0,.string ⟨#[]⟩,.int .i64 0,.float .f64 0,.bool false,.slice none 0 0]:=fun q x hq=>hf6.cell (hz4.out q x hq) hne6;have hk6:Blk W6 w.heap.size:=hk4.out.fr hf6 hne6;clear hf6 hs6 hle6;replace hz6:=Hd hz6;replace hk6:=Hd hk6;have hno6:=Hd (Du (w:=W6) (t:=⟨t.toArray⟩) (most:=4096) hts (by omega) h6.out.nums hm);have hlg:∀W,Below W6.heap.size W6 W->Calls Tryz.prog 103 #[.pointer (some ⟨g,0,none⟩),.int .i64 (len:Int)] W fun e w' => e=Bf q/\Below W.heap.size W w' := fun W hW=>
   long_stop (h6.out.grow hW).scan (h6.out.grow hW).le (by omega) (by rw [<-List.drop_drop,hL2.out];exact hlo)
 replace hlg:=Hd hlg;clear hm hlo hlen hts;generalize (⟨t.toArray⟩:ByteArray)=T at *;go_upto_region 8 with fail
 go_cut [51] from 43 to 51 (fun s5 wx=>s5=.bool false/\wx=W6)
 case first=>
   rcases hk with rfl | rfl | rfl
   · by_cases ht:t=[45,49]
     · exact absurd ⟨ht,.inl rfl⟩ hn
     · rw [decide_eq_false ht] at htl
       replace ht:=Hd ht;clear hn;go_wp2_with fail
       go_meet
       exact ⟨rfl,rfl⟩
   all_goals
     clear hn
     rcases Bool.eq_false_or_eq_true (decide (t=[45,49])) with hd | hd
     all_goals
       rw [hd] at htl
       replace hd:=Hd hd
       go_wp2_with fail
       go_meet
       exact ⟨rfl,rfl⟩
 obtain ⟨rfl,hww⟩:=hcut;obtain rfl:=hww.symm;clear hww hn htl
 go_upto_if 54 with fail
 go_cut [54] from 54 to 57 (fun s5 wx=>s5=.bool true/\wx=W6)
 case first=>
   rcases hk with rfl | rfl | rfl
   all_goals
     go_wp2_with fail
     go_meet
     exact ⟨rfl,rfl⟩
 obtain ⟨rfl,hww⟩:=hcut;obtain rfl:=hww.symm;clear hww;go_wp2_with fail
 refine hno6.out.mono ?_;rintro e W7 ⟨rfl,hb⟩;go_wp2_with fail
 refine (hlg.out W7 hb).mono ?_;rintro e w' ⟨rfl,hb2⟩;exact ⟨rfl,rfl,hf06.out.trans (Ah (g:=g) (hb.trans (hb2.mono hb.size)))⟩
set_option maxRecDepth 100000 in
set_option maxHeartbeats 6400000 in
theorem Eu {rp:Rp} {w0 w:World} {g b o n cap at_ many u len:Nat} {s:ByteArray} {d:Int} {c:UInt8} {t L x:List UInt8} {R:Out (V × Nat × Nat)} (h:RS rp w0 w g b o n cap s at_ many) (hL:s.data.toList.drop at_=c :: L)
   (hk:Ae c=4\/Ae c=10\/Ae c=11) (hl:Bp L=.got (t,u)) (hn:¬(t=[45,49]/\(Ae c=4\/Ae c=5))) (hm:numS t 4096=some len) (hlo:Dq (L.drop u) len=.got x)
   (hR:(okV (Ay (Ae c) ⟨x.toArray⟩ 0 0 false)=true/\R=.got (Ay (Ae c) ⟨x.toArray⟩ 0 0 false,1+u+(len+2),many))\/(¬okV (Ay (Ae c) ⟨x.toArray⟩ 0 0 false)=true/\R=.stop 51)) :
   Calls Tryz.prog 77 #[.pointer (some ⟨g,0,none⟩),.int .i64 d] w (ValQ rp w0 g b o n cap s at_ R w):=by
 have hle:len<=4096:=D4 hm;obtain ⟨kd,hkd⟩:∃kd,kd=Ae c:=⟨_,rfl⟩;rw [<-hkd] at hk hn;have hlen:=Dg hl;have hts:(⟨t.toArray⟩:ByteArray).size<=1000000:=by
   rw [Am];show t.length<=_;omega
 have htl:((⟨t.toArray⟩:ByteArray).toList == [45,49])=decide (t=[45,49]):=by
   rw [ByteArray.toList_eq];show (t == [45,49])=_;rw [Bool.eq_iff_iff,beq_iff_eq,decide_eq_true_eq]
 replace hl:=Hd hl;have hlt:at_<n:=by
   rcases Nat.lt_or_ge at_ n with hh | hh
   · exact hh
   · rw [List.drop_of_length_le (by rw [<-Am,h.scan.size];exact hh)] at hL;cases hL
 have hai:¬(n:Int)<=(at_:Int):=by omega
 have hai2:(at_:Int)<(n:Int):=by omega
 have hbig:=h.scan.big;obtain ⟨hcel,hL2⟩:w.cell? ⟨b,o+at_,none⟩=some (.int .u8 (c.toNat:Int))/\s.data.toList.drop (at_+1)=L:=by
   have hz:=h.scan.size;have h1:=h.scan.bytes at_ (by omega);have e1:=Lib.data_getElem? s at_ (by omega);have e2:s.data.toList[at_]?=some c:=by
     have:=congrArg (·[0]?) hL
     simp only [List.getElem?_drop,Nat.add_zero] at this;exact this
   rw [e1] at e2;rw [h1,Option.some.inj e2];refine ⟨rfl,?_⟩;rw [<-List.drop_drop,hL];rfl
 have hcb:=World.block_lt_of_cell? _ _ hcel;replace hcb:b<w.heap.size:=hcb;replace hL:=Hd hL;replace hL2:=Hd hL2;replace hcel:=Hd hcel;obtain ⟨W1,hW1⟩:∃W1,W1=w.alloc (.cells #[.int .i64 0,.string ⟨#[]⟩,.int .i64 0,.float .f64 0,.bool false,.slice none 0 0] 40):=⟨_,rfl⟩;have hb1:Below w.heap.size w W1:=by rw [hW1];exact (Below.refl _ _).alloc (Nat.le_refl _) _
 have h1:=h.grow hb1;have hz1:W1.rangeAt w.heap.size 0 [.int .i64 0,.string ⟨#[]⟩,.int .i64 0,.float .f64 0,.bool false,.slice none 0 0]:=by
   rw [hW1];intro q x hq;rw [Nat.zero_add,World.cell?_alloc_new];simpa using hq
 have hk1:Blk W1 w.heap.size:=by rw [hW1];exact Blk.new _ _ _
 have c0:=h1.scan.c0;have c1:=h1.scan.c1;have hgl:g<W1.heap.size:=h1.scan.blk.lt;have hgw:g<w.heap.size:=h.scan.blk.lt;replace hW1:=Hd hW1;replace hb1:=Hd hb1;replace h1:=Hd h1;replace hz1:=Hd hz1;replace hk1:=Hd hk1;replace h:=Hd h
 go_enter Tryz.func77,Tryz.ntmps77
 go_wp2_with fail
 rw [<-hW1.out];refine Ad (by kernel_rfl) (by kernel_rfl) ?_;repeat (go_big_quiet_step ((fail)))
 refine wpQuiet_nil ?_;rintro _ ⟨xq,rfl⟩;have hS:=Ag W1 xq;obtain ⟨W2,hW2⟩:∃W2,W2=grow W1 xq:=⟨_,rfl⟩;rw [<-hW2] at hS ⊢;replace hW2:=Hd hW2;have h2:=Hd (h1.out.grow hS);have hb2:Below w.heap.size w W2:=hb1.out.trans (hS.mono hb1.out.size);have hz2:W2.rangeAt w.heap.size 0 [.int .i64 0,.string ⟨#[]⟩,.int .i64 0,.float .f64 0,.bool false,.slice none 0 0]:=fun q x hq=>by rw [hS.cell (World.block_lt_of_cell? _ _ (hz1.out q x hq))];exact hz1.out q x hq
 have hk2:Blk W2 w.heap.size:=hk1.out.of_block (hS.block _ hk1.out.lt);clear c0 c1 hS;replace hb2:=Hd hb2;replace hz2:=Hd hz2;replace hk2:=Hd hk2;have c0:=h2.out.scan.c0;have c1:=h2.out.scan.c1;have cc:=(hb2.out.cell (p:=⟨b,o+at_,none⟩) hcb).trans hcel.out;have hgl2:g<W2.heap.size:=h2.out.scan.blk.lt;have hbl2:b<W2.heap.size:=Nat.lt_of_lt_of_le hcb hb2.out.size;go_wp2_with fail
 refine Ad (by kernel_rfl) (by kernel_rfl) ?_;repeat (go_big_quiet_step ((go_at_call 99;(with_reducible exact Bb (Bc _ _)))))
 refine wpQuiet_nil ?_;rintro _ ⟨xq,rfl⟩;have hS:=Ag W2 xq;obtain ⟨W3,hW3⟩:∃W3,W3=grow W2 xq:=⟨_,rfl⟩;rw [<-hW3] at hS ⊢;replace hW3:=Hd hW3;have h3:=Hd (h2.out.grow hS);have hb3:Below w.heap.size w W3:=hb2.out.trans (hS.mono hb2.out.size);have hz3:W3.rangeAt w.heap.size 0 [.int .i64 0,.string ⟨#[]⟩,.int .i64 0,.float .f64 0,.bool false,.slice none 0 0]:=fun q x hq=>by rw [hS.cell (World.block_lt_of_cell? _ _ (hz2.out q x hq))];exact hz2.out q x hq
 have hk3:Blk W3 w.heap.size:=hk2.out.of_block (hS.block _ hk2.out.lt);clear c0 c1 hS cc;replace hb3:=Hd hb3;replace hz3:=Hd hz3;replace hk3:=Hd hk3;rw [<-hkd];have hk0:((kd:Int) == 0)=false:=by simp;omega
 replace hkd:=Hd hkd;have c1:=h3.out.scan.c1;have fz:=h3.out.scan.blk.frz 1 none;go_wp2_with fail
 have e4:(at_:Int)+1=((at_+1:Nat):Int):=by omega
 rw [e4];have hf4:Fr (fun k=>k=g) w (W3.setCell ⟨g,1,none⟩ (.int .i64 ((at_+1:Nat):Int))):=Fr.setCell (S:=fun k=>k=g) (Ah hb3.out) (fun _=>rfl) _;have h4:RS rp w0 (W3.setCell ⟨g,1,none⟩ (.int .i64 ((at_+1:Nat):Int))) g b o n cap s (at_+1) many:=h3.out.next (Fr.setCell (S:=fun k=>k=g) (Fr.refl _ _) (fun _=>rfl) _) (h3.out.scan.move _) (by omega);have hz4:(W3.setCell ⟨g,1,none⟩ (.int .i64 ((at_+1:Nat):Int))).rangeAt w.heap.size 0 [.int .i64 0,.string ⟨#[]⟩,.int .i64 0,.float .f64 0,.bool false,.slice none 0 0]:=fun q x hq=>by
   rw [Ab (fun e=>by have:=congrArg Addr.block e;simp at this;omega)];exact hz3.out q x hq
 have hk4:Blk (W3.setCell ⟨g,1,none⟩ (.int .i64 ((at_+1:Nat):Int))) w.heap.size:=hk3.out.setCell _ _;generalize W3.setCell ⟨g,1,none⟩ (.int .i64 ((at_+1:Nat):Int))=W4 at *;clear c1 fz e4;replace h4:=Hd h4;replace hf4:=Hd hf4;replace hz4:=Hd hz4;replace hk4:=Hd hk4;refine (Cm h4.out.scan h4.out.le (by rw [hL2.out];exact hl.out)).mono ?_;rintro e W6 ⟨rfl,hf6,hs6,hle6⟩;have h6:=Hd (h4.out.next hf6 hs6 hle6);have hf06:=Hd (hf4.out.trans hf6);have hne6:¬w.heap.size=g:=by omega
 have hz6:W6.rangeAt w.heap.size 0 [.int .i64 0,.string ⟨#[]⟩,.int .i64 0,.float .f64 0,.bool false,.slice none 0 0]:=fun q x hq=>hf6.cell (hz4.out q x hq) hne6;have hk6:Blk W6 w.heap.size:=hk4.out.fr hf6 hne6;clear hf6 hs6 hle6;replace hz6:=Hd hz6;replace hk6:=Hd hk6;have hno6:=Hd (Du (w:=W6) (t:=⟨t.toArray⟩) (most:=4096) hts (by omega) h6.out.nums hm);have hxl:x.length<=4096:=by
   have:=long_len hlo;omega
 have hlg:∀W,Below W6.heap.size W6 W->Calls Tryz.prog 103 #[.pointer (some ⟨g,0,none⟩),.int .i64 (len:Int)] W fun e w' => e=.returned (.string ⟨x.toArray⟩)/\Fr (fun k=>k=g) W w' /\ Scan w' g b o n cap s (at_+1+u+(len+2)) many/\at_+1+u+(len+2)<=n:=fun W hW=>
   long_got (h6.out.grow hW).scan (h6.out.grow hW).le (by omega) (by rw [<-List.drop_drop,hL2.out];exact hlo)
 have hX:(⟨x.toArray⟩:ByteArray).size<=4096:=by rw [Am];exact hxl
 replace hlg:=Hd hlg;clear hm hlo hlen hts hxl;generalize (⟨t.toArray⟩:ByteArray)=T at *;rw [<-hkd.out] at hR;generalize (⟨x.toArray⟩:ByteArray)=X at *;replace hR:=Hd hR;go_upto_region 8 with fail
 go_cut [51] from 43 to 51 (fun s5 wx=>s5=.bool false/\wx=W6)
 case first=>
   rcases hk with rfl | rfl | rfl
   · by_cases ht:t=[45,49]
     · exact absurd ⟨ht,.inl rfl⟩ hn
     · rw [decide_eq_false ht] at htl
       replace ht:=Hd ht;clear hn;go_wp2_with fail
       go_meet
       exact ⟨rfl,rfl⟩
   all_goals
     clear hn
     rcases Bool.eq_false_or_eq_true (decide (t=[45,49])) with hd | hd
     all_goals
       rw [hd] at htl
       replace hd:=Hd hd
       go_wp2_with fail
       go_meet
       exact ⟨rfl,rfl⟩
 obtain ⟨rfl,hww⟩:=hcut;obtain rfl:=hww.symm;clear hww hn htl
 go_upto_if 54 with fail
 go_cut [54] from 54 to 57 (fun s5 wx=>s5=.bool true/\wx=W6)
 case first=>
   rcases hk with rfl | rfl | rfl
   all_goals
     go_wp2_with fail
     go_meet
     exact ⟨rfl,rfl⟩
 obtain ⟨rfl,hww⟩:=hcut;obtain rfl:=hww.symm;clear hww;go_wp2_with fail
 refine hno6.out.mono ?_;rintro e W7 ⟨rfl,hb⟩;have h7:=Hd (h6.out.grow hb);have hf7:=Hd (hf06.out.trans (Ah (g:=g) hb));have hz7:W7.rangeAt w.heap.size 0 [.int .i64 0,.string ⟨#[]⟩,.int .i64 0,.float .f64 0,.bool false,.slice none 0 0]:=fun q x hq=>by rw [(hb).cell (World.block_lt_of_cell? _ _ (hz6.out q x hq))];exact hz6.out q x hq
 have hk7:Blk W7 w.heap.size:=hk6.out.of_block ((hb).block _ hk6.out.lt);replace hz7:=Hd hz7;replace hk7:=Hd hk7;go_wp2_with fail
 refine (hlg.out W7 hb).mono ?_;rintro e W8 ⟨rfl,hf8,hs8,hl8⟩;have h8:=h7.out.next hf8 hs8 hl8;have hf08:=hf7.out.trans hf8;have hne6:¬w.heap.size=g:=by omega
 have hz8:W8.rangeAt w.heap.size 0 [.int .i64 0,.string ⟨#[]⟩,.int .i64 0,.float .f64 0,.bool false,.slice none 0 0]:=fun q x hq=>hf8.cell (hz7.out q x hq) hne6;have hk8:Blk W8 w.heap.size:=hk7.out.fr hf8 hne6;obtain ⟨W9,hW9⟩:∃W9,W9=W8.alloc (.cells #[.int .i64 (kd:Int),.string X,.int .i64 0,.float .f64 0,.bool false,.slice none 0 0] 40):=⟨_,rfl⟩;have hb9:Below W8.heap.size W8 W9:=by rw [hW9];exact (Below.refl _ _).alloc (Nat.le_refl _) _
 have hck:=leaf_any (kd:Int) X 0 0 false (by rcases hk with h | h | h<;>(rw [h];rfl)) (by omega) W9
 have hv9:W9.rangeAt W8.heap.size 0 [.int .i64 (kd:Int),.string X,.int .i64 0,.float .f64 0,.bool false,.slice none 0 0]:=by
   rw [hW9];intro q x hq;rw [Nat.zero_add,World.cell?_alloc_new];simpa using hq
 clear hf8 hs8 hl8 hb;replace h8:=Hd h8;replace hf08:=Hd hf08;replace hz8:=Hd hz8;replace hk8:=Hd hk8;replace hv9:=Hd hv9;replace hb9:=Hd hb9;replace hW9:=Hd hW9;obtain ⟨ck,hck0⟩:∃ck:Int,ck=if okV (Ay (kd:Int) X 0 0 false)=true then 0 else 31:=⟨_,rfl⟩;rw [<-hck0] at hck;replace hck:=Hd hck;replace hck0:=Hd hck0;go_wp2_with fail
 rw [<-hW9.out];refine hck.out.mono ?_;rintro e W10 ⟨rfl,hb10⟩;have hb:=hb9.out.trans (hb10.mono hb9.out.size);have hv10:W10.rangeAt W8.heap.size 0 [.int .i64 (kd:Int),.string X,.int .i64 0,.float .f64 0,.bool false,.slice none 0 0]:=fun q x hq=>by rw [hb10.cell (World.block_lt_of_cell? _ _ (hv9.out q x hq))];exact hv9.out q x hq
 have hA:=Hd (h8.out.grow hb);have hfA:=Hd (hf08.out.trans (Ah (g:=g) hb));have hzA:W10.rangeAt w.heap.size 0 [.int .i64 0,.string ⟨#[]⟩,.int .i64 0,.float .f64 0,.bool false,.slice none 0 0]:=fun q x hq=>by rw [hb.cell (World.block_lt_of_cell? _ _ (hz8.out q x hq))];exact hz8.out q x hq
 have hkA:Blk W10 w.heap.size:=hk8.out.of_block (hb.block _ hk8.out.lt);clear hb hb10;replace hv10:=Hd hv10;replace hzA:=Hd hzA;replace hkA:=Hd hkA;rcases hR.out with ⟨ok,hR1⟩ | ⟨ok,hR1⟩
 · subst hR1
   obtain rfl:ck=0:=by rw [hck0.out,if_pos ok]
   clear hck hR;have htC:=At (n:=6) hzA.out hkA.out rfl;have hrR:(W10.setCells w.heap.size 0 [.int .i64 (kd:Int),.string X,.int .i64 0,.float .f64 0,.bool false,.slice none 0 0]).rangeAt w.heap.size 0 [.int .i64 (kd:Int),.string X,.int .i64 0,.float .f64 0,.bool false,.slice none 0 0]:=World.rangeAt_setCells_same _ _ _ _ htC;have hfw:Fr (fun k=>k=w.heap.size) W10 (W10.setCells w.heap.size 0 [.int .i64 (kd:Int),.string X,.int .i64 0,.float .f64 0,.bool false,.slice none 0 0]):=Fr.setCells (S:=fun k=>k=w.heap.size) (fun _=>rfl) _ _ _ (Fr.refl _ _);have hff:=Hd (hfA.out.trans_new hfw (fun i hi e=>by omega))
   have hrs:RS rp w0 (W10.setCells w.heap.size 0 [.int .i64 (kd:Int),.string X,.int .i64 0,.float .f64 0,.bool false,.slice none 0 0]) g b o n cap s _ many:=⟨hA.out.scan.fr hfw (by omega) (by omega),hA.out.env,hA.out.below.trans (hfw.below hA.out.below.size (fun i hi e=>by have:=hA.out.below.size;have:=hA.out.base;omega)),hA.out.base,hA.out.le⟩;replace htC:=Hd htC;replace hrR:=Hd hrR;replace hrs:=Hd hrs;clear hfw
   go_wp2_with (first
     | (refine wpList_load_mid rfl 40 _ rfl W8.heap.size 0 rfl _ _ hv10.out Tryz.underlying40 rfl Ai ?_)
     | (refine wpList_store_mid rfl 40 _ _ rfl w.heap.size 0 _ rfl rfl htC.out Ai (one6 _ _ _ _ _ _ _ _) ?_))
   refine bodyPost_ret (Ax (v:=.agg #[.int .i64 (kd:Int),.string X,.int .i64 0,.float .f64 0,.bool false,.slice none 0 0]) rfl rfl (run_loadVar_mid (P:=Tryz.prog) _ _ 0 40 _ _ hrR.out Tryz.underlying40 rfl Ai)) rfl ?_;exact ⟨none,0,rfl,RV.leaf _ _ _ _ _ _ _ _,hff.out,by rw [show at_+(1+u+(len+2))=at_+1+u+(len+2) by omega];exact hrs.out⟩
 · subst hR1
   obtain rfl:ck=31:=by rw [hck0.out,if_neg ok]
   clear hck hR;go_wp2_with fail
   refine (Au _).mono ?_;rintro e w' ⟨rfl,hww⟩;obtain rfl:=hww.symm;exact ⟨rfl,rfl,hfA.out⟩
end Go.Proofs.YtfaihaoajdcjbaaGreatDoor
