/- The reader: a value that is a list. -/
import Derived.Test.YtfaihaoajdcjbaaGreatDoorRdQ
import Derived.Test.YtfaihaoajdcjbaaGreatDoorJ21
set_option linter.all false
namespace Go.Proofs.YtfaihaoajdcjbaaGreatDoor
open Go.RowKit
def listO (k u:Nat):Out (List V × Nat × Nat)->Out (V × Nat × Nat)
 | .stop q=>.stop q
 | .got (l,u2,m2)=>.got (.mk (k:Int) ⟨#[]⟩ 0 0 false l,1+u+u2,m2)
set_option maxRecDepth 100000 in
set_option maxHeartbeats 6400000 in
theorem Cv {rp:Rp} {w0 w:World} {g b o n cap at_ many u len N:Nat} {s:ByteArray} {d:Int} {c:UInt8} {t L:List UInt8} {res:Out (List V × Nat × Nat)} {R:Out (V × Nat × Nat)} (h:RS rp w0 w g b o n cap s at_ many) (hL:s.data.toList.drop at_=c :: L)
   (hk:(Ae c=5/\N=len)\/(Ae c=13/\N=len)\/(Ae c=14/\N=len)\/(Ae c=12/\N=2 * len)) (hl:Bp L=.got (t,u)) (hn:¬(t=[45,49]/\(Ae c=4\/Ae c=5))) (hm:numS t 1000=some len)
   (hbw:b<w.heap.size)
   (hcall:∀W,RS rp w0 W g b o n cap s (at_+1+u) many->Calls Tryz.prog 106 #[.pointer (some ⟨g,0,none⟩),.int .i64 (Ae c:Int),.int .i64 (N:Int),.int .i64 d] W (ListQ rp w0 g b o n cap s (Ae c:Int) (at_+1+u) res W))
   (hR:R=listO (Ae c) u res) :
   Calls Tryz.prog 77 #[.pointer (some ⟨g,0,none⟩),.int .i64 d] w (ValQ rp w0 g b o n cap s at_ R w):=by
 have hle:len<=1000:=D4 hm;replace hcall:=Hd hcall;replace hR:=Hd hR;obtain ⟨kd,hkd⟩:∃kd,kd=Ae c:=⟨_,rfl⟩;rw [<-hkd] at hk hn;have hlen:=Dg hl;have hts:(⟨t.toArray⟩:ByteArray).size<=1000000:=by
   rw [Am];show t.length<=_;omega
 have htl:((⟨t.toArray⟩:ByteArray).toList == [45,49])=decide (t=[45,49]):=by
   rw [ByteArray.toList_eq];show (t == [45,49])=_;rw [Bool.eq_iff_iff,beq_iff_eq,decide_eq_true_eq]
 replace hl:=Hd hl;have hlt:at_<n:=by
   rcases Nat.lt_or_ge at_ n with hh | hh
   · exact hh
   · rw [List.drop_of_length_le (by rw [<-Am,h.scan.size];exact hh)] at hL;cases hL
 have hai:¬(n:Int)<=(at_:Int):=by omega
 have hai2:(at_:Int)<(n:Int):=by omega
 have hbig:=h.scan.big;obtain ⟨hcel,hL2⟩:w.cell? ⟨b,o+at_,none⟩=some (.int .u8 (c.toNat:Int))/\s.data.toList.drop (at_+1)=L:=by
   have hz:=h.scan.size;have h1:=h.scan.bytes at_ (by omega);have e1:=Lib.data_getElem? s at_ (by omega);have e2:s.data.toList[at_]?=some c:=by
     have:=congrArg (·[0]?) hL
     simp only [List.getElem?_drop,Nat.add_zero] at this;exact this
   rw [e1] at e2;rw [h1,Option.some.inj e2];refine ⟨rfl,?_⟩;rw [<-List.drop_drop,hL];rfl
 have hcb:=World.block_lt_of_cell? _ _ hcel;replace hcb:b<w.heap.size:=hcb;replace hL:=Hd hL;replace hL2:=Hd hL2;replace hcel:=Hd hcel;obtain ⟨W1,hW1⟩:∃W1,W1=w.alloc (.cells #[.int .i64 0,.string ⟨#[]⟩,.int .i64 0,.float .f64 0,.bool false,.slice none 0 0] 40):=⟨_,rfl⟩;have hb1:Below w.heap.size w W1:=by rw [hW1];exact (Below.refl _ _).alloc (Nat.le_refl _) _
 have h1:=h.grow hb1;have hz1:W1.rangeAt w.heap.size 0 [.int .i64 0,.string ⟨#[]⟩,.int .i64 0,.float .f64 0,.bool false,.slice none 0 0]:=by
   rw [hW1];intro q x hq;rw [Nat.zero_add,World.cell?_alloc_new];simpa using hq
 have hk1:Blk W1 w.heap.size:=by rw [hW1];exact Blk.new _ _ _
 have c0:=h1.scan.c0;have c1:=h1.scan.c1;have hgl:g<W1.heap.size:=h1.scan.blk.lt;have hgw:g<w.heap.size:=h.scan.blk.lt;replace hW1:=Hd hW1;replace hb1:=Hd hb1;replace h1:=Hd h1;replace hz1:=Hd hz1;replace hk1:=Hd hk1;replace h:=Hd h
 go_enter Tryz.func77,Tryz.ntmps77
 go_wp2_with fail
 rw [<-hW1.out];refine Ad (by kernel_rfl) (by kernel_rfl) ?_;repeat (go_big_quiet_step ((fail)))
 refine wpQuiet_nil ?_;rintro _ ⟨xq,rfl⟩;have hS:=Ag W1 xq;obtain ⟨W2,hW2⟩:∃W2,W2=grow W1 xq:=⟨_,rfl⟩;rw [<-hW2] at hS ⊢;replace hW2:=Hd hW2;have h2:=Hd (h1.out.grow hS);have hb2:Below w.heap.size w W2:=hb1.out.trans (hS.mono hb1.out.size);have hz2:W2.rangeAt w.heap.size 0 [.int .i64 0,.string ⟨#[]⟩,.int .i64 0,.float .f64 0,.bool false,.slice none 0 0]:=fun q x hq=>by rw [hS.cell (World.block_lt_of_cell? _ _ (hz1.out q x hq))];exact hz1.out q x hq
 have hk2:Blk W2 w.heap.size:=hk1.out.of_block (hS.block _ hk1.out.lt);clear c0 c1 hS;replace hb2:=Hd hb2;replace hz2:=Hd hz2;replace hk2:=Hd hk2;have c0:=h2.out.scan.c0;have c1:=h2.out.scan.c1;have cc:=(hb2.out.cell (p:=⟨b,o+at_,none⟩) hcb).trans hcel.out;have hgl2:g<W2.heap.size:=h2.out.scan.blk.lt;have hbl2:b<W2.heap.size:=Nat.lt_of_lt_of_le hcb hb2.out.size;go_wp2_with fail
 refine Ad (by kernel_rfl) (by kernel_rfl) ?_;repeat (go_big_quiet_step ((go_at_call 99;(with_reducible exact Bb (Bc _ _)))))
 refine wpQuiet_nil ?_;rintro _ ⟨xq,rfl⟩;have hS:=Ag W2 xq;obtain ⟨W3,hW3⟩:∃W3,W3=grow W2 xq:=⟨_,rfl⟩;rw [<-hW3] at hS ⊢;replace hW3:=Hd hW3;have h3:=Hd (h2.out.grow hS);have hb3:Below w.heap.size w W3:=hb2.out.trans (hS.mono hb2.out.size);have hz3:W3.rangeAt w.heap.size 0 [.int .i64 0,.string ⟨#[]⟩,.int .i64 0,.float .f64 0,.bool false,.slice none 0 0]:=fun q x hq=>by rw [hS.cell (World.block_lt_of_cell? _ _ (hz2.out q x hq))];exact hz2.out q x hq
 have hk3:Blk W3 w.heap.size:=hk2.out.of_block (hS.block _ hk2.out.lt);clear c0 c1 hS cc;replace hb3:=Hd hb3;replace hz3:=Hd hz3;replace hk3:=Hd hk3;rw [<-hkd];have hk0:((kd:Int) == 0)=false:=by simp;omega
 replace hkd:=Hd hkd;have c1:=h3.out.scan.c1;have fz:=h3.out.scan.blk.frz 1 none;go_wp2_with fail
 have e4:(at_:Int)+1=((at_+1:Nat):Int):=by omega
 rw [e4];have hf4:Fr (fun k=>k=g) w (W3.setCell ⟨g,1,none⟩ (.int .i64 ((at_+1:Nat):Int))):=Fr.setCell (S:=fun k=>k=g) (Ah hb3.out) (fun _=>rfl) _;have h4:RS rp w0 (W3.setCell ⟨g,1,none⟩ (.int .i64 ((at_+1:Nat):Int))) g b o n cap s (at_+1) many:=h3.out.next (Fr.setCell (S:=fun k=>k=g) (Fr.refl _ _) (fun _=>rfl) _) (h3.out.scan.move _) (by omega);have hz4:(W3.setCell ⟨g,1,none⟩ (.int .i64 ((at_+1:Nat):Int))).rangeAt w.heap.size 0 [.int .i64 0,.string ⟨#[]⟩,.int .i64 0,.float .f64 0,.bool false,.slice none 0 0]:=fun q x hq=>by
   rw [Ab (fun e=>by have:=congrArg Addr.block e;simp at this;omega)];exact hz3.out q x hq
 have hk4:Blk (W3.setCell ⟨g,1,none⟩ (.int .i64 ((at_+1:Nat):Int))) w.heap.size:=hk3.out.setCell _ _;generalize W3.setCell ⟨g,1,none⟩ (.int .i64 ((at_+1:Nat):Int))=W4 at *;clear c1 fz e4;replace h4:=Hd h4;replace hf4:=Hd hf4;replace hz4:=Hd hz4;replace hk4:=Hd hk4;refine (Cm h4.out.scan h4.out.le (by rw [hL2.out];exact hl.out)).mono ?_;rintro e W6 ⟨rfl,hf6,hs6,hle6⟩;have h6:=Hd (h4.out.next hf6 hs6 hle6);have hf06:=Hd (hf4.out.trans hf6);have hne6:¬w.heap.size=g:=by omega
 have hz6:W6.rangeAt w.heap.size 0 [.int .i64 0,.string ⟨#[]⟩,.int .i64 0,.float .f64 0,.bool false,.slice none 0 0]:=fun q x hq=>hf6.cell (hz4.out q x hq) hne6;have hk6:Blk W6 w.heap.size:=hk4.out.fr hf6 hne6;clear hf6 hs6 hle6;replace hz6:=Hd hz6;replace hk6:=Hd hk6;rw [<-hkd.out] at hcall hR;have hno6:=Hd (Du (w:=W6) (t:=⟨t.toArray⟩) (most:=1000) hts (by omega) h6.out.nums hm);clear hm hlen hts;generalize (⟨t.toArray⟩:ByteArray)=T at *;go_upto_region 8 with fail
 go_cut [51] from 43 to 51 (fun s5 wx=>s5=.bool false/\wx=W6)
 case first=>
   rcases hk with ⟨rfl,_⟩ | ⟨rfl,_⟩ | ⟨rfl,_⟩ | ⟨rfl,_⟩
   · by_cases ht:t=[45,49]
     · exact absurd ⟨ht,.inr rfl⟩ hn
     · rw [decide_eq_false ht] at htl
       replace ht:=Hd ht;clear hn;go_wp2_with fail
       go_meet
       exact ⟨rfl,rfl⟩
   all_goals
     clear hn
     rcases Bool.eq_false_or_eq_true (decide (t=[45,49])) with hd | hd
     all_goals
       rw [hd] at htl
       replace hd:=Hd hd
       go_wp2_with fail
       go_meet
       exact ⟨rfl,rfl⟩
 obtain ⟨rfl,hww⟩:=hcut;obtain rfl:=hww.symm;clear hww hn htl;have hkk:((kd=5\/kd=13\/kd=14)/\N=len)\/kd=12/\N=2 * len:=by omega
 clear hk;rcases hkk with ⟨hk,rfl⟩ | ⟨rfl,rfl⟩
 · have z4:((kd:Int) == 4)=false:=by simp;omega
   have z10:((kd:Int) == 10)=false:=by simp;omega
   have z11:((kd:Int) == 11)=false:=by simp;omega
   go_upto_if 69 with fail
   go_cut [69] from 69 to 72 (fun s5 wx=>s5=.bool true/\wx=W6)
   case first=>
     rcases hk with rfl | rfl | rfl
     all_goals
       go_wp2_with fail
       go_meet
       exact ⟨rfl,rfl⟩
   obtain ⟨rfl,hww⟩:=hcut;obtain rfl:=hww.symm;clear hww;go_wp2_with fail
   refine hno6.out.mono ?_;rintro e W7 ⟨rfl,hb⟩;have h7:=Hd (h6.out.grow hb);have hf7:=Hd (hf06.out.trans (Ah (g:=g) hb));have hz7:W7.rangeAt w.heap.size 0 [.int .i64 0,.string ⟨#[]⟩,.int .i64 0,.float .f64 0,.bool false,.slice none 0 0]:=fun q x hq=>by rw [(hb).cell (World.block_lt_of_cell? _ _ (hz6.out q x hq))];exact hz6.out q x hq
   have hk7:Blk W7 w.heap.size:=hk6.out.of_block ((hb).block _ hk6.out.lt);replace hz7:=Hd hz7;replace hk7:=Hd hk7;clear hb;go_wp2_with fail
   refine (hcall.out W7 h7.out).mono ?_;intro e W8 he;have hR1:=hR.out;cases res with
   | stop q=>
     obtain ⟨rfl,hb2⟩:=he;subst hR1;exact ⟨rfl,rfl,hf7.out.trans hb2⟩
   | got r=>
     obtain ⟨l,u2,m2⟩:=r;obtain ⟨ad1,ca1,rfl,hrv8,hf8,h8⟩:=he;subst hR1;clear hcall hR;have hf08:=hf7.out.trans hf8;have hne6:¬w.heap.size=g:=by omega
     have hz8:W8.rangeAt w.heap.size 0 [.int .i64 0,.string ⟨#[]⟩,.int .i64 0,.float .f64 0,.bool false,.slice none 0 0]:=fun q x hq=>hf8.cell (hz7.out q x hq) hne6;have hk8:Blk W8 w.heap.size:=hk7.out.fr hf8 hne6;have hlt7:=hk7.out.lt;clear hf8;have htC:=At (n:=6) hz8 hk8 rfl;have hrR:(W8.setCells w.heap.size 0 [.int .i64 (kd:Int),.string ⟨#[]⟩,.int .i64 0,.float .f64 0,.bool false,.slice ad1 l.length ca1]).rangeAt w.heap.size 0 [.int .i64 (kd:Int),.string ⟨#[]⟩,.int .i64 0,.float .f64 0,.bool false,.slice ad1 l.length ca1]:=World.rangeAt_setCells_same _ _ _ _ htC;have hfw:Fr (fun k=>k=w.heap.size) W8 (W8.setCells w.heap.size 0 [.int .i64 (kd:Int),.string ⟨#[]⟩,.int .i64 0,.float .f64 0,.bool false,.slice ad1 l.length ca1]):=Fr.setCells (S:=fun k=>k=w.heap.size) (fun _=>rfl) _ _ _ (Fr.refl _ _);have hff:=Hd (hf08.trans_new hfw (fun i hi e=>by omega))
     have hrs:RS rp w0 (W8.setCells w.heap.size 0 [.int .i64 (kd:Int),.string ⟨#[]⟩,.int .i64 0,.float .f64 0,.bool false,.slice ad1 l.length ca1]) g b o n cap s _ m2:=h8.fr hfw (by omega) (by omega) (fun i e=>by have:=h.out.base;omega);have hrv9:=Hd (hrv8.mono (Fl hfw hlt7));replace htC:=Hd htC;replace hrR:=Hd hrR;replace hrs:=Hd hrs;clear hfw hrv8 h8 hf08 hz8 hk8;go_wp2_with (refine wpList_store_mid rfl 40 _ _ rfl w.heap.size 0 _ rfl rfl htC.out Ai (one6 _ _ _ _ _ _ _ _) ?_)
     refine bodyPost_ret (Ax (v:=.agg #[.int .i64 (kd:Int),.string ⟨#[]⟩,.int .i64 0,.float .f64 0,.bool false,.slice ad1 l.length ca1]) rfl rfl (run_loadVar_mid (P:=Tryz.prog) _ _ 0 40 _ _ hrR.out Tryz.underlying40 rfl Ai)) rfl ?_;exact ⟨ad1,ca1,rfl,hrv9.out,hff.out,by rw [show at_+(1+u+u2)=at_+1+u+u2 by omega];exact hrs.out⟩
 · go_wp2_with fail
   refine hno6.out.mono ?_;rintro e W7 ⟨rfl,hb⟩;have h7:=Hd (h6.out.grow hb);have hf7:=Hd (hf06.out.trans (Ah (g:=g) hb));have hz7:W7.rangeAt w.heap.size 0 [.int .i64 0,.string ⟨#[]⟩,.int .i64 0,.float .f64 0,.bool false,.slice none 0 0]:=fun q x hq=>by rw [(hb).cell (World.block_lt_of_cell? _ _ (hz6.out q x hq))];exact hz6.out q x hq
   have hk7:Blk W7 w.heap.size:=hk6.out.of_block ((hb).block _ hk6.out.lt);replace hz7:=Hd hz7;replace hk7:=Hd hk7;clear hb;go_wp2_with fail
   have e12:(2:Int) * (len:Int)=((2 * len:Nat):Int):=by omega
   try rw [e12]
   clear e12;refine (hcall.out W7 h7.out).mono ?_;intro e W8 he;have hR1:=hR.out;cases res with
   | stop q=>
     obtain ⟨rfl,hb2⟩:=he;subst hR1;exact ⟨rfl,rfl,hf7.out.trans hb2⟩
   | got r=>
     obtain ⟨l,u2,m2⟩:=r;obtain ⟨ad1,ca1,rfl,hrv8,hf8,h8⟩:=he;subst hR1;clear hcall hR;have hf08:=hf7.out.trans hf8;have hne6:¬w.heap.size=g:=by omega
     have hz8:W8.rangeAt w.heap.size 0 [.int .i64 0,.string ⟨#[]⟩,.int .i64 0,.float .f64 0,.bool false,.slice none 0 0]:=fun q x hq=>hf8.cell (hz7.out q x hq) hne6;have hk8:Blk W8 w.heap.size:=hk7.out.fr hf8 hne6;have hlt7:=hk7.out.lt;clear hf8;have htC:=At (n:=6) hz8 hk8 rfl;have hrR:(W8.setCells w.heap.size 0 [.int .i64 12,.string ⟨#[]⟩,.int .i64 0,.float .f64 0,.bool false,.slice ad1 l.length ca1]).rangeAt w.heap.size 0 [.int .i64 12,.string ⟨#[]⟩,.int .i64 0,.float .f64 0,.bool false,.slice ad1 l.length ca1]:=World.rangeAt_setCells_same _ _ _ _ htC;have hfw:Fr (fun k=>k=w.heap.size) W8 (W8.setCells w.heap.size 0 [.int .i64 12,.string ⟨#[]⟩,.int .i64 0,.float .f64 0,.bool false,.slice ad1 l.length ca1]):=Fr.setCells (S:=fun k=>k=w.heap.size) (fun _=>rfl) _ _ _ (Fr.refl _ _);have hff:=Hd (hf08.trans_new hfw (fun i hi e=>by omega))
     have hrs:RS rp w0 (W8.setCells w.heap.size 0 [.int .i64 12,.string ⟨#[]⟩,.int .i64 0,.float .f64 0,.bool false,.slice ad1 l.length ca1]) g b o n cap s _ m2:=h8.fr hfw (by omega) (by omega) (fun i e=>by have:=h.out.base;omega);have hrv9:=Hd (hrv8.mono (Fl hfw hlt7));replace htC:=Hd htC;replace hrR:=Hd hrR;replace hrs:=Hd hrs;clear hfw hrv8 h8 hf08 hz8 hk8;go_wp2_with (refine wpList_store_mid rfl 40 _ _ rfl w.heap.size 0 _ rfl rfl htC.out Ai (one6 _ _ _ _ _ _ _ _) ?_)
     refine bodyPost_ret (Ax (v:=.agg #[.int .i64 12,.string ⟨#[]⟩,.int .i64 0,.float .f64 0,.bool false,.slice ad1 l.length ca1]) rfl rfl (run_loadVar_mid (P:=Tryz.prog) _ _ 0 40 _ _ hrR.out Tryz.underlying40 rfl Ai)) rfl ?_;exact ⟨ad1,ca1,rfl,hrv9.out,hff.out,by rw [show at_+(1+u+u2)=at_+1+u+u2 by omega];exact hrs.out⟩
end Go.Proofs.YtfaihaoajdcjbaaGreatDoor
