/- The reader: the walk of a value. -/
import Derived.Test.YtagkgfniihiinaaGreatDoorJ52
set_option linter.all false
set_option maxHeartbeats 6400000
set_option maxRecDepth 100000
namespace Go.Proofs.YtagkgfniihiinaaGreatDoor
open Go.RowKit
theorem line_len {L t:List UInt8} {u:Nat} (h:Az L=.got (t,u)):t.length<=4200/\t.length+2=u/\u<=L.length:=by
 unfold Az at h;dsimp only at h;have hl:(L.take 4200).length<=4200:=by rw [List.length_take];omega
 have hl2:(L.take 4200).length<=L.length:=by rw [List.length_take];omega
 have hb:=Bp (L.take 4200) 10;split at h
 ·cases h
 ·rename_i h3
  split at h
  ·cases h
  ·rename_i h4
   simp only [Out.got.injEq,Prod.mk.injEq] at h;obtain ⟨h1,h2⟩:=h;rw [<-h1,List.length_take];rcases hb with hb | hb
   ·omega
   ·exfalso
    have h0:Lib.indexByte (L.take 4200) 10=-1:=by rw [hb];rfl
    exact h4 (by rw [h0];decide)
theorem Cx (c:UInt8) (w:World):Calls Tryz.prog 63 #[.int .u8 (c.toNat:Int)] w fun e w' => e=.returned (.int .i64 (Ab c:Int))/\Below w.heap.size w w' := (kinds_any c w).mono fun e w' ⟨h1,h2⟩=>⟨h1,by rw [h2];exact Below.refl _ _⟩
theorem value_end {rp:Rp} {w0 w:World} {g b o n cap at_ many:Nat} {s:ByteArray} {d:Int} (h:RS rp w0 w g b o n cap s at_ many) (he:at_=n) :
  Calls Tryz.prog 46 #[.pointer (some ⟨g,0,none⟩),.int .i64 d] w fun e w' => e=C1 0/\Fr (fun k=>k=g) w w' := by
 have hai:(n:Int)<=(at_:Int):=by omega
 replace he:=Hd he;obtain ⟨W1,hW1⟩:∃W1,W1=w.alloc (.cells #[.int .i64 0,.string ⟨#[]⟩,.int .i64 0,.float .f64 0,.bool false,.slice none 0 0] 26):=⟨_,rfl⟩;have a:Below w.heap.size w W1:=by rw [hW1];exact (Below.refl _ _).alloc (Nat.le_refl _) _
 have h1:=h.grow a;have c:W1.rangeAt w.heap.size 0 [.int .i64 0,.string ⟨#[]⟩,.int .i64 0,.float .f64 0,.bool false,.slice none 0 0]:=by
  rw [hW1];intro q x hq;rw [Nat.zero_add,World.cell?_alloc_new];simpa using hq
 have f:Blk W1 w.heap.size:=by rw [hW1];exact Blk.new _ _ _
 have c0:=h1.scan.c0;have c1:=h1.scan.c1;have hgl:g<W1.heap.size:=h1.scan.blk.lt;have hgw:g<w.heap.size:=h.scan.blk.lt;replace hW1:=Hd hW1;replace a:=Hd a;replace h1:=Hd h1;replace c:=Hd c;replace f:=Hd f;replace h:=Hd h
 go_enter Tryz.func46,Tryz.ntmps46
 go_wp2_with fail
 rw [<-hW1.out];refine Ae (by kernel_rfl) (by kernel_rfl) ?_;repeat (go_big_quiet_step ((fail)))
 refine wpQuiet_nil ?_;rintro _ ⟨xq,rfl⟩;have hS:=Ah W1 xq;obtain ⟨W2,hW2⟩:∃W2,W2=grow W1 xq:=⟨_,rfl⟩;rw [<-hW2] at hS ⊢;replace hW2:=Hd hW2;have h2:=Hd (h1.out.grow hS);have i:Below w.heap.size w W2:=a.out.trans (hS.mono a.out.size);have j:W2.rangeAt w.heap.size 0 [.int .i64 0,.string ⟨#[]⟩,.int .i64 0,.float .f64 0,.bool false,.slice none 0 0]:=fun q x hq=>by rw [hS.cell (World.block_lt_of_cell? _ _ (c.out q x hq))];exact c.out q x hq
 have l:Blk W2 w.heap.size:=f.out.of_block (hS.block _ f.out.lt);clear c0 c1 hS;replace i:=Hd i;replace j:=Hd j;replace l:=Hd l;go_wp2_with fail
 refine (Ec _).mono ?_;rintro e w' ⟨rfl,m⟩;obtain rfl:=m.symm;exact ⟨rfl,rfl,Am i.out⟩
theorem value_mark {rp:Rp} {w0 w:World} {g b o n cap at_ many:Nat} {s:ByteArray} {d:Int} {c:UInt8} {L:List UInt8} (h:RS rp w0 w g b o n cap s at_ many) (hL:s.data.toList.drop at_=c :: L) (hk:Ab c=0) :
  Calls Tryz.prog 46 #[.pointer (some ⟨g,0,none⟩),.int .i64 d] w fun e w' => e=C1 51/\Fr (fun k=>k=g) w w' := by
 have hlt:at_<n:=by
  rcases Nat.lt_or_ge at_ n with hh | hh
  ·exact hh
  ·rw [List.drop_of_length_le (by rw [<-Ax,h.scan.size];exact hh)] at hL;cases hL
 have hai:¬(n:Int)<=(at_:Int):=by omega
 have hai2:(at_:Int)<(n:Int):=by omega
 have hbig:=h.scan.big;obtain ⟨hcel,hL2⟩:w.cell? ⟨b,o+at_,none⟩=some (.int .u8 (c.toNat:Int))/\s.data.toList.drop (at_+1)=L:=by
  have hz:=h.scan.size;have h1:=h.scan.bytes at_ (by omega);have e1:=Lib.data_getElem? s at_ (by omega);have e2:s.data.toList[at_]?=some c:=by
   have:=congrArg (·[0]?) hL
   simp only [List.getElem?_drop,Nat.add_zero] at this;exact this
  rw [e1] at e2;rw [h1,Option.some.inj e2];refine ⟨rfl,?_⟩;rw [<-List.drop_drop,hL];rfl
 have i:=World.block_lt_of_cell? _ _ hcel;replace i:b<w.heap.size:=i;replace hL:=Hd hL;replace hL2:=Hd hL2;replace hcel:=Hd hcel;obtain ⟨W1,hW1⟩:∃W1,W1=w.alloc (.cells #[.int .i64 0,.string ⟨#[]⟩,.int .i64 0,.float .f64 0,.bool false,.slice none 0 0] 26):=⟨_,rfl⟩;have f:Below w.heap.size w W1:=by rw [hW1];exact (Below.refl _ _).alloc (Nat.le_refl _) _
 have h1:=h.grow f;have j:W1.rangeAt w.heap.size 0 [.int .i64 0,.string ⟨#[]⟩,.int .i64 0,.float .f64 0,.bool false,.slice none 0 0]:=by
  rw [hW1];intro q x hq;rw [Nat.zero_add,World.cell?_alloc_new];simpa using hq
 have l:Blk W1 w.heap.size:=by rw [hW1];exact Blk.new _ _ _
 have c0:=h1.scan.c0;have c1:=h1.scan.c1;have hgl:g<W1.heap.size:=h1.scan.blk.lt;have hgw:g<w.heap.size:=h.scan.blk.lt;replace hW1:=Hd hW1;replace f:=Hd f;replace h1:=Hd h1;replace j:=Hd j;replace l:=Hd l;replace h:=Hd h
 go_enter Tryz.func46,Tryz.ntmps46
 go_wp2_with fail
 rw [<-hW1.out];refine Ae (by kernel_rfl) (by kernel_rfl) ?_;repeat (go_big_quiet_step ((fail)))
 refine wpQuiet_nil ?_;rintro _ ⟨xq,rfl⟩;have hS:=Ah W1 xq;obtain ⟨W2,hW2⟩:∃W2,W2=grow W1 xq:=⟨_,rfl⟩;rw [<-hW2] at hS ⊢;replace hW2:=Hd hW2;have h2:=Hd (h1.out.grow hS);have a:Below w.heap.size w W2:=f.out.trans (hS.mono f.out.size);have m:W2.rangeAt w.heap.size 0 [.int .i64 0,.string ⟨#[]⟩,.int .i64 0,.float .f64 0,.bool false,.slice none 0 0]:=fun q x hq=>by rw [hS.cell (World.block_lt_of_cell? _ _ (j.out q x hq))];exact j.out q x hq
 have r:Blk W2 w.heap.size:=l.out.of_block (hS.block _ l.out.lt);clear c0 c1 hS;replace a:=Hd a;replace m:=Hd m;replace r:=Hd r;have c0:=h2.out.scan.c0;have c1:=h2.out.scan.c1;have cc:=(a.out.cell (p:=⟨b,o+at_,none⟩) i).trans hcel.out;have hgl2:g<W2.heap.size:=h2.out.scan.blk.lt;have hbl2:b<W2.heap.size:=Nat.lt_of_lt_of_le i a.out.size;go_wp2_with fail
 refine Ae (by kernel_rfl) (by kernel_rfl) ?_;repeat (go_big_quiet_step ((go_at_call 63;(with_reducible exact Bl (Cx _ _)))))
 refine wpQuiet_nil ?_;rintro _ ⟨xq,rfl⟩;have hS:=Ah W2 xq;obtain ⟨W3,hW3⟩:∃W3,W3=grow W2 xq:=⟨_,rfl⟩;rw [<-hW3] at hS ⊢;replace hW3:=Hd hW3;have h3:=Hd (h2.out.grow hS);have t:Below w.heap.size w W3:=a.out.trans (hS.mono a.out.size);have u:W3.rangeAt w.heap.size 0 [.int .i64 0,.string ⟨#[]⟩,.int .i64 0,.float .f64 0,.bool false,.slice none 0 0]:=fun q x hq=>by rw [hS.cell (World.block_lt_of_cell? _ _ (m.out q x hq))];exact m.out q x hq
 have v:Blk W3 w.heap.size:=r.out.of_block (hS.block _ r.out.lt);clear c0 c1 hS cc;replace t:=Hd t;replace u:=Hd u;replace v:=Hd v;rw [hk];go_wp2_with fail
 refine (Bf _).mono ?_;rintro e w' ⟨rfl,y⟩;obtain rfl:=y.symm;exact ⟨rfl,rfl,Am t.out⟩
theorem value_line {rp:Rp} {w0 w:World} {g b o n cap at_ many q:Nat} {s:ByteArray} {d:Int} {c:UInt8} {L:List UInt8} (h:RS rp w0 w g b o n cap s at_ many) (hL:s.data.toList.drop at_=c :: L) (hk:Ab c≠0) (hl:Az L=.stop q) :
  Calls Tryz.prog 46 #[.pointer (some ⟨g,0,none⟩),.int .i64 d] w fun e w' => e=C1 q/\Fr (fun k=>k=g) w w' := by
 have hk0:((Ab c:Int) == 0)=false:=by simp;omega
 replace hk:=Hd hk;replace hl:=Hd hl;have hlt:at_<n:=by
  rcases Nat.lt_or_ge at_ n with hh | hh
  ·exact hh
  ·rw [List.drop_of_length_le (by rw [<-Ax,h.scan.size];exact hh)] at hL;cases hL
 have hai:¬(n:Int)<=(at_:Int):=by omega
 have hai2:(at_:Int)<(n:Int):=by omega
 have hbig:=h.scan.big;obtain ⟨hcel,hL2⟩:w.cell? ⟨b,o+at_,none⟩=some (.int .u8 (c.toNat:Int))/\s.data.toList.drop (at_+1)=L:=by
  have hz:=h.scan.size;have h1:=h.scan.bytes at_ (by omega);have e1:=Lib.data_getElem? s at_ (by omega);have e2:s.data.toList[at_]?=some c:=by
   have:=congrArg (·[0]?) hL
   simp only [List.getElem?_drop,Nat.add_zero] at this;exact this
  rw [e1] at e2;rw [h1,Option.some.inj e2];refine ⟨rfl,?_⟩;rw [<-List.drop_drop,hL];rfl
 have j:=World.block_lt_of_cell? _ _ hcel;replace j:b<w.heap.size:=j;replace hL:=Hd hL;replace hL2:=Hd hL2;replace hcel:=Hd hcel;obtain ⟨W1,hW1⟩:∃W1,W1=w.alloc (.cells #[.int .i64 0,.string ⟨#[]⟩,.int .i64 0,.float .f64 0,.bool false,.slice none 0 0] 26):=⟨_,rfl⟩;have f:Below w.heap.size w W1:=by rw [hW1];exact (Below.refl _ _).alloc (Nat.le_refl _) _
 have h1:=h.grow f;have l:W1.rangeAt w.heap.size 0 [.int .i64 0,.string ⟨#[]⟩,.int .i64 0,.float .f64 0,.bool false,.slice none 0 0]:=by
  rw [hW1];intro q x hq;rw [Nat.zero_add,World.cell?_alloc_new];simpa using hq
 have m:Blk W1 w.heap.size:=by rw [hW1];exact Blk.new _ _ _
 have c0:=h1.scan.c0;have c1:=h1.scan.c1;have hgl:g<W1.heap.size:=h1.scan.blk.lt;have hgw:g<w.heap.size:=h.scan.blk.lt;replace hW1:=Hd hW1;replace f:=Hd f;replace h1:=Hd h1;replace l:=Hd l;replace m:=Hd m;replace h:=Hd h
 go_enter Tryz.func46,Tryz.ntmps46
 go_wp2_with fail
 rw [<-hW1.out];refine Ae (by kernel_rfl) (by kernel_rfl) ?_;repeat (go_big_quiet_step ((fail)))
 refine wpQuiet_nil ?_;rintro _ ⟨xq,rfl⟩;have hS:=Ah W1 xq;obtain ⟨W2,hW2⟩:∃W2,W2=grow W1 xq:=⟨_,rfl⟩;rw [<-hW2] at hS ⊢;replace hW2:=Hd hW2;have h2:=Hd (h1.out.grow hS);have a:Below w.heap.size w W2:=f.out.trans (hS.mono f.out.size);have r:W2.rangeAt w.heap.size 0 [.int .i64 0,.string ⟨#[]⟩,.int .i64 0,.float .f64 0,.bool false,.slice none 0 0]:=fun q x hq=>by rw [hS.cell (World.block_lt_of_cell? _ _ (l.out q x hq))];exact l.out q x hq
 have t:Blk W2 w.heap.size:=m.out.of_block (hS.block _ m.out.lt);clear c0 c1 hS;replace a:=Hd a;replace r:=Hd r;replace t:=Hd t;have c0:=h2.out.scan.c0;have c1:=h2.out.scan.c1;have cc:=(a.out.cell (p:=⟨b,o+at_,none⟩) j).trans hcel.out;have hgl2:g<W2.heap.size:=h2.out.scan.blk.lt;have hbl2:b<W2.heap.size:=Nat.lt_of_lt_of_le j a.out.size;go_wp2_with fail
 refine Ae (by kernel_rfl) (by kernel_rfl) ?_;repeat (go_big_quiet_step ((go_at_call 63;(with_reducible exact Bl (Cx _ _)))))
 refine wpQuiet_nil ?_;rintro _ ⟨xq,rfl⟩;have hS:=Ah W2 xq;obtain ⟨W3,hW3⟩:∃W3,W3=grow W2 xq:=⟨_,rfl⟩;rw [<-hW3] at hS ⊢;replace hW3:=Hd hW3;have h3:=Hd (h2.out.grow hS);have v:Below w.heap.size w W3:=a.out.trans (hS.mono a.out.size);have y:W3.rangeAt w.heap.size 0 [.int .i64 0,.string ⟨#[]⟩,.int .i64 0,.float .f64 0,.bool false,.slice none 0 0]:=fun q x hq=>by rw [hS.cell (World.block_lt_of_cell? _ _ (r.out q x hq))];exact r.out q x hq
 have z:Blk W3 w.heap.size:=t.out.of_block (hS.block _ t.out.lt);clear c0 c1 hS cc;replace v:=Hd v;replace y:=Hd y;replace z:=Hd z;have c1:=h3.out.scan.c1;have fz:=h3.out.scan.blk.frz 1 none;go_wp2_with fail
 have e4:(at_:Int)+1=((at_+1:Nat):Int):=by omega
 rw [e4];have u:Fr (fun k=>k=g) w (W3.setCell ⟨g,1,none⟩ (.int .i64 ((at_+1:Nat):Int))):=Fr.setCell (S:=fun k=>k=g) (Am v.out) (fun _=>rfl) _;have h4:RS rp w0 (W3.setCell ⟨g,1,none⟩ (.int .i64 ((at_+1:Nat):Int))) g b o n cap s (at_+1) many:=h3.out.next (Fr.setCell (S:=fun k=>k=g) (Fr.refl _ _) (fun _=>rfl) _) (h3.out.scan.move _) (by omega);have aa:(W3.setCell ⟨g,1,none⟩ (.int .i64 ((at_+1:Nat):Int))).rangeAt w.heap.size 0 [.int .i64 0,.string ⟨#[]⟩,.int .i64 0,.float .f64 0,.bool false,.slice none 0 0]:=fun q x hq=>by
  rw [Ac (fun e=>by have:=congrArg Addr.block e;simp at this;omega)];exact y.out q x hq
 have ab:Blk (W3.setCell ⟨g,1,none⟩ (.int .i64 ((at_+1:Nat):Int))) w.heap.size:=z.out.setCell _ _;generalize W3.setCell ⟨g,1,none⟩ (.int .i64 ((at_+1:Nat):Int))=W4 at *;clear c1 fz e4;replace h4:=Hd h4;replace u:=Hd u;replace aa:=Hd aa;replace ab:=Hd ab;have hq:q=51\/q=0:=by
  have:=hl.out;unfold Az at this;dsimp only at this;split at this
  ·left;simpa using this.symm
  ·split at this
   ·right;simpa using this.symm
   ·cases this
 rcases hq with rfl | rfl
 ·refine (line_bad h4.out.scan h4.out.le (by rw [hL2.out];exact hl.out)).mono ?_
  rintro e w' ⟨rfl,hb⟩;exact ⟨rfl,rfl,u.out.trans_new (Am (g:=g) hb) (fun i hi h=>h)⟩
 ·refine (line_short h4.out.scan h4.out.le (by rw [hL2.out];exact hl.out)).mono ?_
  rintro e w' ⟨rfl,hb⟩;exact ⟨rfl,rfl,u.out.trans_new (Am (g:=g) hb) (fun i hi h=>h)⟩
theorem nilR_any (w:World):Calls Tryz.prog 66 #[] w fun e w' => e=.returned (.agg #[.int .i64 6,.string ⟨#[]⟩,.int .i64 0,.float .f64 0,.bool false,.slice none 0 0])/\Below w.heap.size w w' := by
 have a:=Hd (fun (o:Obj)=>(Below.refl w.heap.size w).alloc (Nat.le_refl _) o)
 go_enter Tryz.func66,Tryz.ntmps66
 go_wp2;exact bodyPost_ret (v:=.agg #[.int .i64 6,.string ⟨#[]⟩,.int .i64 0,.float .f64 0,.bool false,.slice none 0 0]) (by simp [results,Tryz.results66,go_sem]) rfl ⟨rfl,a.out _⟩
theorem kindR_tab:∀c:Fin 256,Ab (UInt8.ofNat c.val)<=14:=by decide +kernel
theorem kindR_le (c:UInt8):Ab c<=14:=by
 have:=kindR_tab ⟨c.toNat,c.toNat_lt⟩;simpa using this
theorem value_nil {rp:Rp} {w0 w:World} {g b o n cap at_ many u:Nat} {s:ByteArray} {d:Int} {c:UInt8} {L:List UInt8} (h:RS rp w0 w g b o n cap s at_ many) (hL:s.data.toList.drop at_=c :: L) (hk:Ab c=4\/Ab c=5) (hl:Az L=.got ([45,49],u)) :
  Calls Tryz.prog 46 #[.pointer (some ⟨g,0,none⟩),.int .i64 d] w (ValQ rp w0 g b o n cap s at_ (.got (Ar 6 ⟨#[]⟩ 0 0 false,1+u,many)) w):=by
 obtain ⟨kd,hkd⟩:∃kd,kd=Ab c:=⟨_,rfl⟩;rw [<-hkd] at hk;replace hl:=Hd hl;have hlt:at_<n:=by
  rcases Nat.lt_or_ge at_ n with hh | hh
  ·exact hh
  ·rw [List.drop_of_length_le (by rw [<-Ax,h.scan.size];exact hh)] at hL;cases hL
 have hai:¬(n:Int)<=(at_:Int):=by omega
 have hai2:(at_:Int)<(n:Int):=by omega
 have hbig:=h.scan.big;obtain ⟨hcel,hL2⟩:w.cell? ⟨b,o+at_,none⟩=some (.int .u8 (c.toNat:Int))/\s.data.toList.drop (at_+1)=L:=by
  have hz:=h.scan.size;have h1:=h.scan.bytes at_ (by omega);have e1:=Lib.data_getElem? s at_ (by omega);have e2:s.data.toList[at_]?=some c:=by
   have:=congrArg (·[0]?) hL
   simp only [List.getElem?_drop,Nat.add_zero] at this;exact this
  rw [e1] at e2;rw [h1,Option.some.inj e2];refine ⟨rfl,?_⟩;rw [<-List.drop_drop,hL];rfl
 have l:=World.block_lt_of_cell? _ _ hcel;replace l:b<w.heap.size:=l;replace hL:=Hd hL;replace hL2:=Hd hL2;replace hcel:=Hd hcel;obtain ⟨W1,hW1⟩:∃W1,W1=w.alloc (.cells #[.int .i64 0,.string ⟨#[]⟩,.int .i64 0,.float .f64 0,.bool false,.slice none 0 0] 26):=⟨_,rfl⟩;have f:Below w.heap.size w W1:=by rw [hW1];exact (Below.refl _ _).alloc (Nat.le_refl _) _
 have h1:=h.grow f;have m:W1.rangeAt w.heap.size 0 [.int .i64 0,.string ⟨#[]⟩,.int .i64 0,.float .f64 0,.bool false,.slice none 0 0]:=by
  rw [hW1];intro q x hq;rw [Nat.zero_add,World.cell?_alloc_new];simpa using hq
 have r:Blk W1 w.heap.size:=by rw [hW1];exact Blk.new _ _ _
 have c0:=h1.scan.c0;have c1:=h1.scan.c1;have hgl:g<W1.heap.size:=h1.scan.blk.lt;have hgw:g<w.heap.size:=h.scan.blk.lt;replace hW1:=Hd hW1;replace f:=Hd f;replace h1:=Hd h1;replace m:=Hd m;replace r:=Hd r;replace h:=Hd h
 go_enter Tryz.func46,Tryz.ntmps46
 go_wp2_with fail
 rw [<-hW1.out];refine Ae (by kernel_rfl) (by kernel_rfl) ?_;repeat (go_big_quiet_step ((fail)))
 refine wpQuiet_nil ?_;rintro _ ⟨xq,rfl⟩;have hS:=Ah W1 xq;obtain ⟨W2,hW2⟩:∃W2,W2=grow W1 xq:=⟨_,rfl⟩;rw [<-hW2] at hS ⊢;replace hW2:=Hd hW2;have h2:=Hd (h1.out.grow hS);have a:Below w.heap.size w W2:=f.out.trans (hS.mono f.out.size);have t:W2.rangeAt w.heap.size 0 [.int .i64 0,.string ⟨#[]⟩,.int .i64 0,.float .f64 0,.bool false,.slice none 0 0]:=fun q x hq=>by rw [hS.cell (World.block_lt_of_cell? _ _ (m.out q x hq))];exact m.out q x hq
 have y:Blk W2 w.heap.size:=r.out.of_block (hS.block _ r.out.lt);clear c0 c1 hS;replace a:=Hd a;replace t:=Hd t;replace y:=Hd y;have c0:=h2.out.scan.c0;have c1:=h2.out.scan.c1;have cc:=(a.out.cell (p:=⟨b,o+at_,none⟩) l).trans hcel.out;have hgl2:g<W2.heap.size:=h2.out.scan.blk.lt;have hbl2:b<W2.heap.size:=Nat.lt_of_lt_of_le l a.out.size;go_wp2_with fail
 refine Ae (by kernel_rfl) (by kernel_rfl) ?_;repeat (go_big_quiet_step ((go_at_call 63;(with_reducible exact Bl (Cx _ _)))))
 refine wpQuiet_nil ?_;rintro _ ⟨xq,rfl⟩;have hS:=Ah W2 xq;obtain ⟨W3,hW3⟩:∃W3,W3=grow W2 xq:=⟨_,rfl⟩;rw [<-hW3] at hS ⊢;replace hW3:=Hd hW3;have h3:=Hd (h2.out.grow hS);have af:Below w.heap.size w W3:=a.out.trans (hS.mono a.out.size);have ag:W3.rangeAt w.heap.size 0 [.int .i64 0,.string ⟨#[]⟩,.int .i64 0,.float .f64 0,.bool false,.slice none 0 0]:=fun q x hq=>by rw [hS.cell (World.block_lt_of_cell? _ _ (t.out q x hq))];exact t.out q x hq
 have ah:Blk W3 w.heap.size:=y.out.of_block (hS.block _ y.out.lt);clear c0 c1 hS cc;replace af:=Hd af;replace ag:=Hd ag;replace ah:=Hd ah;rw [<-hkd];have hk0:((kd:Int) == 0)=false:=by simp;omega
 replace hkd:=Hd hkd;have c1:=h3.out.scan.c1;have fz:=h3.out.scan.blk.frz 1 none;go_wp2_with fail
 have e4:(at_:Int)+1=((at_+1:Nat):Int):=by omega
 rw [e4];have ai:Fr (fun k=>k=g) w (W3.setCell ⟨g,1,none⟩ (.int .i64 ((at_+1:Nat):Int))):=Fr.setCell (S:=fun k=>k=g) (Am af.out) (fun _=>rfl) _;have h4:RS rp w0 (W3.setCell ⟨g,1,none⟩ (.int .i64 ((at_+1:Nat):Int))) g b o n cap s (at_+1) many:=h3.out.next (Fr.setCell (S:=fun k=>k=g) (Fr.refl _ _) (fun _=>rfl) _) (h3.out.scan.move _) (by omega);have aj:(W3.setCell ⟨g,1,none⟩ (.int .i64 ((at_+1:Nat):Int))).rangeAt w.heap.size 0 [.int .i64 0,.string ⟨#[]⟩,.int .i64 0,.float .f64 0,.bool false,.slice none 0 0]:=fun q x hq=>by
  rw [Ac (fun e=>by have:=congrArg Addr.block e;simp at this;omega)];exact ag.out q x hq
 have ak:Blk (W3.setCell ⟨g,1,none⟩ (.int .i64 ((at_+1:Nat):Int))) w.heap.size:=ah.out.setCell _ _;generalize W3.setCell ⟨g,1,none⟩ (.int .i64 ((at_+1:Nat):Int))=W4 at *;clear c1 fz e4;replace h4:=Hd h4;replace ai:=Hd ai;replace aj:=Hd aj;replace ak:=Hd ak;refine (Ft h4.out.scan h4.out.le (by rw [hL2.out];exact hl.out)).mono ?_;rintro e W6 ⟨rfl,j,aq,ae⟩;have h6:=Hd (h4.out.next j aq ae);have ap:=Hd (ai.out.trans j);have ad:¬w.heap.size=g:=by omega
 have z:W6.rangeAt w.heap.size 0 [.int .i64 0,.string ⟨#[]⟩,.int .i64 0,.float .f64 0,.bool false,.slice none 0 0]:=fun q x hq=>j.cell (aj.out q x hq) ad;have aa:Blk W6 w.heap.size:=ak.out.fr j ad;clear j aq ae;replace z:=Hd z;replace aa:=Hd aa;rcases hk with rfl | rfl
 all_goals
  go_wp2_with fail
  refine (nilR_any _).mono ?_
  rintro e W7 ⟨rfl,hb⟩
  have h7:=Hd (h6.out.grow hb)
  have ar:=Hd (ap.out.trans (Am (g:=g) hb))
  have al:W7.rangeAt w.heap.size 0 [.int .i64 0,.string ⟨#[]⟩,.int .i64 0,.float .f64 0,.bool false,.slice none 0 0]:=fun q x hq=>by rw [(hb).cell (World.block_lt_of_cell? _ _ (z.out q x hq))];exact z.out q x hq
  have am:Blk W7 w.heap.size:=aa.out.of_block ((hb).block _ aa.out.lt)
  replace al:=Hd al
  replace am:=Hd am
  clear hb
  have ab:=Af (n:=6) al.out am.out rfl
  have an:(W7.setCells w.heap.size 0 [.int .i64 6,.string (⟨#[]⟩:ByteArray),.int .i64 0,.float .f64 0,.bool false,.slice none 0 0]).rangeAt w.heap.size 0 [.int .i64 6,.string (⟨#[]⟩:ByteArray),.int .i64 0,.float .f64 0,.bool false,.slice none 0 0]:=World.rangeAt_setCells_same _ _ _ _ ab
  have ac:Fr (fun k=>k=w.heap.size) W7 (W7.setCells w.heap.size 0 [.int .i64 6,.string (⟨#[]⟩:ByteArray),.int .i64 0,.float .f64 0,.bool false,.slice none 0 0]):=Fr.setCells (S:=fun k=>k=w.heap.size) (fun _=>rfl) _ _ _ (Fr.refl _ _)
  have au:=Hd (ar.out.trans_new ac (fun i hi e=>by omega))
  have ao:RS rp w0 (W7.setCells w.heap.size 0 [.int .i64 6,.string (⟨#[]⟩:ByteArray),.int .i64 0,.float .f64 0,.bool false,.slice none 0 0]) g b o n cap s _ many:=⟨h7.out.scan.fr ac (by omega) (by omega),h7.out.env,h7.out.below.trans (ac.below h7.out.below.size (fun i hi e=>by have:=h7.out.below.size;have:=h7.out.base;omega)),h7.out.base,h7.out.le⟩
  replace ab:=Hd ab
  replace an:=Hd an
  replace ao:=Hd ao
  clear ac
  go_wp2_with (refine wpList_store_mid rfl 26 _ _ rfl w.heap.size 0 _ rfl rfl ab.out Ad (one6 _ _ _ _ _ _ _ _) ?_)
  refine bodyPost_ret (B9 (v:=.agg #[.int .i64 6,.string (⟨#[]⟩:ByteArray),.int .i64 0,.float .f64 0,.bool false,.slice none 0 0]) rfl rfl (run_loadVar_mid (P:=Tryz.prog) _ _ 0 26 _ _ an.out Tryz.underlying26 rfl Ad)) rfl ?_
  exact ⟨none,0,rfl,RV.leaf _ _ _ _ _ _ _ _,au.out,by rw [show at_+(1+u)=at_+1+u by omega];exact ao.out⟩
theorem value_num {rp:Rp} {w0 w:World} {g b o n cap at_ many u most:Nat} {s:ByteArray} {d:Int} {c:UInt8} {t L:List UInt8} (h:RS rp w0 w g b o n cap s at_ many) (hL:s.data.toList.drop at_=c :: L)
  (hk:(most=4096/\(Ab c=4\/Ab c=10\/Ab c=11))\/(most=1000/\(Ab c=5\/Ab c=13\/Ab c=14\/Ab c=12))) (hl:Az L=.got (t,u)) (hn:¬(t=[45,49]/\(Ab c=4\/Ab c=5))) (hm:numS t most=none) :
  Calls Tryz.prog 46 #[.pointer (some ⟨g,0,none⟩),.int .i64 d] w fun e w' => e=C1 51/\Fr (fun k=>k=g) w w' := by
 obtain ⟨kd,hkd⟩:∃kd,kd=Ab c:=⟨_,rfl⟩;rw [<-hkd] at hk hn;have ai:(⟨t.toArray⟩:ByteArray).size<=1000000:=by
  have:=line_len hl;rw [Ax];show t.length<=_;omega
 have ao:most<=100000:=by omega
 have aj:=fun W (hN:Nums W)=>number_no (w:=W) (t:=⟨t.toArray⟩) ai ao hN hm;have ak:((⟨t.toArray⟩:ByteArray).toList == [45,49])=decide (t=[45,49]):=by
  rw [ByteArray.toList_eq];show (t == [45,49])=_;rw [Bool.eq_iff_iff,beq_iff_eq,decide_eq_true_eq]
 replace hl:=Hd hl;have hlt:at_<n:=by
  rcases Nat.lt_or_ge at_ n with hh | hh
  ·exact hh
  ·rw [List.drop_of_length_le (by rw [<-Ax,h.scan.size];exact hh)] at hL;cases hL
 have hai:¬(n:Int)<=(at_:Int):=by omega
 have hai2:(at_:Int)<(n:Int):=by omega
 have hbig:=h.scan.big;obtain ⟨hcel,hL2⟩:w.cell? ⟨b,o+at_,none⟩=some (.int .u8 (c.toNat:Int))/\s.data.toList.drop (at_+1)=L:=by
  have hz:=h.scan.size;have h1:=h.scan.bytes at_ (by omega);have e1:=Lib.data_getElem? s at_ (by omega);have e2:s.data.toList[at_]?=some c:=by
   have:=congrArg (·[0]?) hL
   simp only [List.getElem?_drop,Nat.add_zero] at this;exact this
  rw [e1] at e2;rw [h1,Option.some.inj e2];refine ⟨rfl,?_⟩;rw [<-List.drop_drop,hL];rfl
 have j:=World.block_lt_of_cell? _ _ hcel;replace j:b<w.heap.size:=j;replace hL:=Hd hL;replace hL2:=Hd hL2;replace hcel:=Hd hcel;obtain ⟨W1,hW1⟩:∃W1,W1=w.alloc (.cells #[.int .i64 0,.string ⟨#[]⟩,.int .i64 0,.float .f64 0,.bool false,.slice none 0 0] 26):=⟨_,rfl⟩;have f:Below w.heap.size w W1:=by rw [hW1];exact (Below.refl _ _).alloc (Nat.le_refl _) _
 have h1:=h.grow f;have l:W1.rangeAt w.heap.size 0 [.int .i64 0,.string ⟨#[]⟩,.int .i64 0,.float .f64 0,.bool false,.slice none 0 0]:=by
  rw [hW1];intro q x hq;rw [Nat.zero_add,World.cell?_alloc_new];simpa using hq
 have m:Blk W1 w.heap.size:=by rw [hW1];exact Blk.new _ _ _
 have c0:=h1.scan.c0;have c1:=h1.scan.c1;have hgl:g<W1.heap.size:=h1.scan.blk.lt;have hgw:g<w.heap.size:=h.scan.blk.lt;replace hW1:=Hd hW1;replace f:=Hd f;replace h1:=Hd h1;replace l:=Hd l;replace m:=Hd m;replace h:=Hd h
 go_enter Tryz.func46,Tryz.ntmps46
 go_wp2_with fail
 rw [<-hW1.out];refine Ae (by kernel_rfl) (by kernel_rfl) ?_;repeat (go_big_quiet_step ((fail)))
 refine wpQuiet_nil ?_;rintro _ ⟨xq,rfl⟩;have hS:=Ah W1 xq;obtain ⟨W2,hW2⟩:∃W2,W2=grow W1 xq:=⟨_,rfl⟩;rw [<-hW2] at hS ⊢;replace hW2:=Hd hW2;have h2:=Hd (h1.out.grow hS);have a:Below w.heap.size w W2:=f.out.trans (hS.mono f.out.size);have r:W2.rangeAt w.heap.size 0 [.int .i64 0,.string ⟨#[]⟩,.int .i64 0,.float .f64 0,.bool false,.slice none 0 0]:=fun q x hq=>by rw [hS.cell (World.block_lt_of_cell? _ _ (l.out q x hq))];exact l.out q x hq
 have v:Blk W2 w.heap.size:=m.out.of_block (hS.block _ m.out.lt);clear c0 c1 hS;replace a:=Hd a;replace r:=Hd r;replace v:=Hd v;have c0:=h2.out.scan.c0;have c1:=h2.out.scan.c1;have cc:=(a.out.cell (p:=⟨b,o+at_,none⟩) j).trans hcel.out;have hgl2:g<W2.heap.size:=h2.out.scan.blk.lt;have hbl2:b<W2.heap.size:=Nat.lt_of_lt_of_le j a.out.size;go_wp2_with fail
 refine Ae (by kernel_rfl) (by kernel_rfl) ?_;repeat (go_big_quiet_step ((go_at_call 63;(with_reducible exact Bl (Cx _ _)))))
 refine wpQuiet_nil ?_;rintro _ ⟨xq,rfl⟩;have hS:=Ah W2 xq;obtain ⟨W3,hW3⟩:∃W3,W3=grow W2 xq:=⟨_,rfl⟩;rw [<-hW3] at hS ⊢;replace hW3:=Hd hW3;have h3:=Hd (h2.out.grow hS);have ac:Below w.heap.size w W3:=a.out.trans (hS.mono a.out.size);have ad:W3.rangeAt w.heap.size 0 [.int .i64 0,.string ⟨#[]⟩,.int .i64 0,.float .f64 0,.bool false,.slice none 0 0]:=fun q x hq=>by rw [hS.cell (World.block_lt_of_cell? _ _ (r.out q x hq))];exact r.out q x hq
 have ae:Blk W3 w.heap.size:=v.out.of_block (hS.block _ v.out.lt);clear c0 c1 hS cc;replace ac:=Hd ac;replace ad:=Hd ad;replace ae:=Hd ae;rw [<-hkd];have hk0:((kd:Int) == 0)=false:=by simp;omega
 replace hkd:=Hd hkd;have c1:=h3.out.scan.c1;have fz:=h3.out.scan.blk.frz 1 none;go_wp2_with fail
 have e4:(at_:Int)+1=((at_+1:Nat):Int):=by omega
 rw [e4];have af:Fr (fun k=>k=g) w (W3.setCell ⟨g,1,none⟩ (.int .i64 ((at_+1:Nat):Int))):=Fr.setCell (S:=fun k=>k=g) (Am ac.out) (fun _=>rfl) _;have h4:RS rp w0 (W3.setCell ⟨g,1,none⟩ (.int .i64 ((at_+1:Nat):Int))) g b o n cap s (at_+1) many:=h3.out.next (Fr.setCell (S:=fun k=>k=g) (Fr.refl _ _) (fun _=>rfl) _) (h3.out.scan.move _) (by omega);have ag:(W3.setCell ⟨g,1,none⟩ (.int .i64 ((at_+1:Nat):Int))).rangeAt w.heap.size 0 [.int .i64 0,.string ⟨#[]⟩,.int .i64 0,.float .f64 0,.bool false,.slice none 0 0]:=fun q x hq=>by
  rw [Ac (fun e=>by have:=congrArg Addr.block e;simp at this;omega)];exact ad.out q x hq
 have ah:Blk (W3.setCell ⟨g,1,none⟩ (.int .i64 ((at_+1:Nat):Int))) w.heap.size:=ae.out.setCell _ _;generalize W3.setCell ⟨g,1,none⟩ (.int .i64 ((at_+1:Nat):Int))=W4 at *;clear c1 fz e4;replace h4:=Hd h4;replace af:=Hd af;replace ag:=Hd ag;replace ah:=Hd ah;refine (Ft h4.out.scan h4.out.le (by rw [hL2.out];exact hl.out)).mono ?_;rintro e W6 ⟨rfl,i,an,ab⟩;have h6:=Hd (h4.out.next i an ab);have y:=Hd (af.out.trans i);have z:¬w.heap.size=g:=by omega
 have al:W6.rangeAt w.heap.size 0 [.int .i64 0,.string ⟨#[]⟩,.int .i64 0,.float .f64 0,.bool false,.slice none 0 0]:=fun q x hq=>i.cell (ag.out q x hq) z;have am:Blk W6 w.heap.size:=ah.out.fr i z;clear i an ab;replace al:=Hd al;replace am:=Hd am;have aa:=Hd (aj _ h6.out.nums);generalize (⟨t.toArray⟩:ByteArray)=T at *;clear aj ai;by_cases ht:t=[45,49]
 ·rw [decide_eq_true ht] at ak
  rcases hk with ⟨rfl,rfl | rfl | rfl⟩ | ⟨rfl,rfl | rfl | rfl | rfl⟩;all_goals first | exact absurd ⟨ht,.inl rfl⟩ hn | exact absurd ⟨ht,.inr rfl⟩ hn | skip
  all_goals
   clear hn
   go_wp2_with fail
   refine aa.out.mono ?_
   rintro e w' ⟨rfl,hb⟩
   exact ⟨rfl,rfl,y.out.trans (Am (g:=g) hb)⟩
 ·rw [decide_eq_false ht] at ak
  replace ht:=Hd ht;rcases hk with ⟨rfl,rfl | rfl | rfl⟩ | ⟨rfl,rfl | rfl | rfl | rfl⟩
  all_goals
   clear hn
   go_wp2_with fail
   refine aa.out.mono ?_
   rintro e w' ⟨rfl,hb⟩
   exact ⟨rfl,rfl,y.out.trans (Am (g:=g) hb)⟩
theorem long_len {L x:List UInt8} {k:Nat} (h:Cd L k=.got x):x.length=k:=by
 unfold Cd at h;split at h
 ·cases h
 ·split at h
  ·cases h
  ·simp only [Out.got.injEq] at h
   rw [<-h,List.length_take];omega
theorem numS_le {t:List UInt8} {most k:Nat} (h:numS t most=some k):k<=most:=by
 unfold numS at h;split at h
 ·split at h
  ·have:=Option.some.inj h;omega
  ·cases h
 ·cases h
theorem value_lstop {rp:Rp} {w0 w:World} {g b o n cap at_ many u q len:Nat} {s:ByteArray} {d:Int} {c:UInt8} {t L:List UInt8} (h:RS rp w0 w g b o n cap s at_ many) (hL:s.data.toList.drop at_=c :: L)
  (hk:Ab c=4\/Ab c=10\/Ab c=11) (hl:Az L=.got (t,u)) (hn:¬(t=[45,49]/\(Ab c=4\/Ab c=5))) (hm:numS t 4096=some len) (hlo:Cd (L.drop u) len=.stop q) :
  Calls Tryz.prog 46 #[.pointer (some ⟨g,0,none⟩),.int .i64 d] w fun e w' => e=C1 q/\Fr (fun k=>k=g) w w' := by
 have hle:len<=4096:=numS_le hm;obtain ⟨kd,hkd⟩:∃kd,kd=Ab c:=⟨_,rfl⟩;rw [<-hkd] at hk hn;have aj:=line_len hl;have ak:(⟨t.toArray⟩:ByteArray).size<=1000000:=by
  rw [Ax];show t.length<=_;omega
 have ab:((⟨t.toArray⟩:ByteArray).toList == [45,49])=decide (t=[45,49]):=by
  rw [ByteArray.toList_eq];show (t == [45,49])=_;rw [Bool.eq_iff_iff,beq_iff_eq,decide_eq_true_eq]
 replace hl:=Hd hl;have hlt:at_<n:=by
  rcases Nat.lt_or_ge at_ n with hh | hh
  ·exact hh
  ·rw [List.drop_of_length_le (by rw [<-Ax,h.scan.size];exact hh)] at hL;cases hL
 have hai:¬(n:Int)<=(at_:Int):=by omega
 have hai2:(at_:Int)<(n:Int):=by omega
 have hbig:=h.scan.big;obtain ⟨hcel,hL2⟩:w.cell? ⟨b,o+at_,none⟩=some (.int .u8 (c.toNat:Int))/\s.data.toList.drop (at_+1)=L:=by
  have hz:=h.scan.size;have h1:=h.scan.bytes at_ (by omega);have e1:=Lib.data_getElem? s at_ (by omega);have e2:s.data.toList[at_]?=some c:=by
   have:=congrArg (·[0]?) hL
   simp only [List.getElem?_drop,Nat.add_zero] at this;exact this
  rw [e1] at e2;rw [h1,Option.some.inj e2];refine ⟨rfl,?_⟩;rw [<-List.drop_drop,hL];rfl
 have l:=World.block_lt_of_cell? _ _ hcel;replace l:b<w.heap.size:=l;replace hL:=Hd hL;replace hL2:=Hd hL2;replace hcel:=Hd hcel;obtain ⟨W1,hW1⟩:∃W1,W1=w.alloc (.cells #[.int .i64 0,.string ⟨#[]⟩,.int .i64 0,.float .f64 0,.bool false,.slice none 0 0] 26):=⟨_,rfl⟩;have f:Below w.heap.size w W1:=by rw [hW1];exact (Below.refl _ _).alloc (Nat.le_refl _) _
 have h1:=h.grow f;have m:W1.rangeAt w.heap.size 0 [.int .i64 0,.string ⟨#[]⟩,.int .i64 0,.float .f64 0,.bool false,.slice none 0 0]:=by
  rw [hW1];intro q x hq;rw [Nat.zero_add,World.cell?_alloc_new];simpa using hq
 have r:Blk W1 w.heap.size:=by rw [hW1];exact Blk.new _ _ _
 have c0:=h1.scan.c0;have c1:=h1.scan.c1;have hgl:g<W1.heap.size:=h1.scan.blk.lt;have hgw:g<w.heap.size:=h.scan.blk.lt;replace hW1:=Hd hW1;replace f:=Hd f;replace h1:=Hd h1;replace m:=Hd m;replace r:=Hd r;replace h:=Hd h
 go_enter Tryz.func46,Tryz.ntmps46
 go_wp2_with fail
 rw [<-hW1.out];refine Ae (by kernel_rfl) (by kernel_rfl) ?_;repeat (go_big_quiet_step ((fail)))
 refine wpQuiet_nil ?_;rintro _ ⟨xq,rfl⟩;have hS:=Ah W1 xq;obtain ⟨W2,hW2⟩:∃W2,W2=grow W1 xq:=⟨_,rfl⟩;rw [<-hW2] at hS ⊢;replace hW2:=Hd hW2;have h2:=Hd (h1.out.grow hS);have a:Below w.heap.size w W2:=f.out.trans (hS.mono f.out.size);have v:W2.rangeAt w.heap.size 0 [.int .i64 0,.string ⟨#[]⟩,.int .i64 0,.float .f64 0,.bool false,.slice none 0 0]:=fun q x hq=>by rw [hS.cell (World.block_lt_of_cell? _ _ (m.out q x hq))];exact m.out q x hq
 have y:Blk W2 w.heap.size:=r.out.of_block (hS.block _ r.out.lt);clear c0 c1 hS;replace a:=Hd a;replace v:=Hd v;replace y:=Hd y;have c0:=h2.out.scan.c0;have c1:=h2.out.scan.c1;have cc:=(a.out.cell (p:=⟨b,o+at_,none⟩) l).trans hcel.out;have hgl2:g<W2.heap.size:=h2.out.scan.blk.lt;have hbl2:b<W2.heap.size:=Nat.lt_of_lt_of_le l a.out.size;go_wp2_with fail
 refine Ae (by kernel_rfl) (by kernel_rfl) ?_;repeat (go_big_quiet_step ((go_at_call 63;(with_reducible exact Bl (Cx _ _)))))
 refine wpQuiet_nil ?_;rintro _ ⟨xq,rfl⟩;have hS:=Ah W2 xq;obtain ⟨W3,hW3⟩:∃W3,W3=grow W2 xq:=⟨_,rfl⟩;rw [<-hW3] at hS ⊢;replace hW3:=Hd hW3;have h3:=Hd (h2.out.grow hS);have ac:Below w.heap.size w W3:=a.out.trans (hS.mono a.out.size);have ad:W3.rangeAt w.heap.size 0 [.int .i64 0,.string ⟨#[]⟩,.int .i64 0,.float .f64 0,.bool false,.slice none 0 0]:=fun q x hq=>by rw [hS.cell (World.block_lt_of_cell? _ _ (v.out q x hq))];exact v.out q x hq
 have ae:Blk W3 w.heap.size:=y.out.of_block (hS.block _ y.out.lt);clear c0 c1 hS cc;replace ac:=Hd ac;replace ad:=Hd ad;replace ae:=Hd ae;rw [<-hkd];have hk0:((kd:Int) == 0)=false:=by simp;omega
 replace hkd:=Hd hkd;have c1:=h3.out.scan.c1;have fz:=h3.out.scan.blk.frz 1 none;go_wp2_with fail
 have e4:(at_:Int)+1=((at_+1:Nat):Int):=by omega
 rw [e4];have af:Fr (fun k=>k=g) w (W3.setCell ⟨g,1,none⟩ (.int .i64 ((at_+1:Nat):Int))):=Fr.setCell (S:=fun k=>k=g) (Am ac.out) (fun _=>rfl) _;have h4:RS rp w0 (W3.setCell ⟨g,1,none⟩ (.int .i64 ((at_+1:Nat):Int))) g b o n cap s (at_+1) many:=h3.out.next (Fr.setCell (S:=fun k=>k=g) (Fr.refl _ _) (fun _=>rfl) _) (h3.out.scan.move _) (by omega);have ag:(W3.setCell ⟨g,1,none⟩ (.int .i64 ((at_+1:Nat):Int))).rangeAt w.heap.size 0 [.int .i64 0,.string ⟨#[]⟩,.int .i64 0,.float .f64 0,.bool false,.slice none 0 0]:=fun q x hq=>by
  rw [Ac (fun e=>by have:=congrArg Addr.block e;simp at this;omega)];exact ad.out q x hq
 have ah:Blk (W3.setCell ⟨g,1,none⟩ (.int .i64 ((at_+1:Nat):Int))) w.heap.size:=ae.out.setCell _ _;generalize W3.setCell ⟨g,1,none⟩ (.int .i64 ((at_+1:Nat):Int))=W4 at *;clear c1 fz e4;replace h4:=Hd h4;replace af:=Hd af;replace ag:=Hd ag;replace ah:=Hd ah;refine (Ft h4.out.scan h4.out.le (by rw [hL2.out];exact hl.out)).mono ?_;rintro e W6 ⟨rfl,i,ap,aa⟩;have h6:=Hd (h4.out.next i ap aa);have al:=Hd (af.out.trans i);have z:¬w.heap.size=g:=by omega
 have am:W6.rangeAt w.heap.size 0 [.int .i64 0,.string ⟨#[]⟩,.int .i64 0,.float .f64 0,.bool false,.slice none 0 0]:=fun q x hq=>i.cell (ag.out q x hq) z;have an:Blk W6 w.heap.size:=ah.out.fr i z;clear i ap aa;replace am:=Hd am;replace an:=Hd an;have ao:=Hd (number_got (w:=W6) (t:=⟨t.toArray⟩) (most:=4096) ak (by omega) h6.out.nums hm);have ai:∀W,Below W6.heap.size W6 W->Calls Tryz.prog 67 #[.pointer (some ⟨g,0,none⟩),.int .i64 (len:Int)] W fun e w' => e=C1 q/\Below W.heap.size W w' := fun W hW=>
  long_stop (h6.out.grow hW).scan (h6.out.grow hW).le (by omega) (by rw [<-List.drop_drop,hL2.out];exact hlo)
 replace ai:=Hd ai;clear hm hlo aj ak;generalize (⟨t.toArray⟩:ByteArray)=T at *;go_upto_region 8 with fail
 go_cut [51] from 43 to 51 (fun s5 wx=>s5=.bool false/\wx=W6)
 case first=>
  rcases hk with rfl | rfl | rfl
  ·by_cases ht:t=[45,49]
   ·exact absurd ⟨ht,.inl rfl⟩ hn
   ·rw [decide_eq_false ht] at ab
    replace ht:=Hd ht;clear hn;go_wp2_with fail
    go_meet
    exact ⟨rfl,rfl⟩
  all_goals
   clear hn
   rcases Bool.eq_false_or_eq_true (decide (t=[45,49])) with hd | hd
   all_goals
    rw [hd] at ab
    replace hd:=Hd hd
    go_wp2_with fail
    go_meet
    exact ⟨rfl,rfl⟩
 obtain ⟨rfl,j⟩:=hcut;obtain rfl:=j.symm;clear j hn ab
 go_upto_if 54 with fail
 go_cut [54] from 54 to 57 (fun s5 wx=>s5=.bool true/\wx=W6)
 case first=>
  rcases hk with rfl | rfl | rfl
  all_goals
   go_wp2_with fail
   go_meet
   exact ⟨rfl,rfl⟩
 obtain ⟨rfl,j⟩:=hcut;obtain rfl:=j.symm;clear j;go_wp2_with fail
 refine ao.out.mono ?_;rintro e W7 ⟨rfl,hb⟩;go_wp2_with fail
 refine (ai.out W7 hb).mono ?_;rintro e w' ⟨rfl,a⟩;exact ⟨rfl,rfl,al.out.trans (Am (g:=g) (hb.trans (a.mono hb.size)))⟩
theorem value_ltext {rp:Rp} {w0 w:World} {g b o n cap at_ many u len:Nat} {s:ByteArray} {d:Int} {c:UInt8} {t L x:List UInt8} {R:Out (V × Nat × Nat)} (h:RS rp w0 w g b o n cap s at_ many) (hL:s.data.toList.drop at_=c :: L)
  (hk:Ab c=4\/Ab c=10\/Ab c=11) (hl:Az L=.got (t,u)) (hn:¬(t=[45,49]/\(Ab c=4\/Ab c=5))) (hm:numS t 4096=some len) (hlo:Cd (L.drop u) len=.got x)
  (hR:(okV (Ar (Ab c) ⟨x.toArray⟩ 0 0 false)=true/\R=.got (Ar (Ab c) ⟨x.toArray⟩ 0 0 false,1+u+(len+2),many))\/(¬okV (Ar (Ab c) ⟨x.toArray⟩ 0 0 false)=true/\R=.stop 51)) :
  Calls Tryz.prog 46 #[.pointer (some ⟨g,0,none⟩),.int .i64 d] w (ValQ rp w0 g b o n cap s at_ R w):=by
 have hle:len<=4096:=numS_le hm;obtain ⟨kd,hkd⟩:∃kd,kd=Ab c:=⟨_,rfl⟩;rw [<-hkd] at hk hn;have a7:=line_len hl;have a8:(⟨t.toArray⟩:ByteArray).size<=1000000:=by
  rw [Ax];show t.length<=_;omega
 have aq:((⟨t.toArray⟩:ByteArray).toList == [45,49])=decide (t=[45,49]):=by
  rw [ByteArray.toList_eq];show (t == [45,49])=_;rw [Bool.eq_iff_iff,beq_iff_eq,decide_eq_true_eq]
 replace hl:=Hd hl;have hlt:at_<n:=by
  rcases Nat.lt_or_ge at_ n with hh | hh
  ·exact hh
  ·rw [List.drop_of_length_le (by rw [<-Ax,h.scan.size];exact hh)] at hL;cases hL
 have hai:¬(n:Int)<=(at_:Int):=by omega
 have hai2:(at_:Int)<(n:Int):=by omega
 have hbig:=h.scan.big;obtain ⟨hcel,hL2⟩:w.cell? ⟨b,o+at_,none⟩=some (.int .u8 (c.toNat:Int))/\s.data.toList.drop (at_+1)=L:=by
  have hz:=h.scan.size;have h1:=h.scan.bytes at_ (by omega);have e1:=Lib.data_getElem? s at_ (by omega);have e2:s.data.toList[at_]?=some c:=by
   have:=congrArg (·[0]?) hL
   simp only [List.getElem?_drop,Nat.add_zero] at this;exact this
  rw [e1] at e2;rw [h1,Option.some.inj e2];refine ⟨rfl,?_⟩;rw [<-List.drop_drop,hL];rfl
 have ac:=World.block_lt_of_cell? _ _ hcel;replace ac:b<w.heap.size:=ac;replace hL:=Hd hL;replace hL2:=Hd hL2;replace hcel:=Hd hcel;obtain ⟨W1,hW1⟩:∃W1,W1=w.alloc (.cells #[.int .i64 0,.string ⟨#[]⟩,.int .i64 0,.float .f64 0,.bool false,.slice none 0 0] 26):=⟨_,rfl⟩;have m:Below w.heap.size w W1:=by rw [hW1];exact (Below.refl _ _).alloc (Nat.le_refl _) _
 have h1:=h.grow m;have ad:W1.rangeAt w.heap.size 0 [.int .i64 0,.string ⟨#[]⟩,.int .i64 0,.float .f64 0,.bool false,.slice none 0 0]:=by
  rw [hW1];intro q x hq;rw [Nat.zero_add,World.cell?_alloc_new];simpa using hq
 have ae:Blk W1 w.heap.size:=by rw [hW1];exact Blk.new _ _ _
 have c0:=h1.scan.c0;have c1:=h1.scan.c1;have hgl:g<W1.heap.size:=h1.scan.blk.lt;have hgw:g<w.heap.size:=h.scan.blk.lt;replace hW1:=Hd hW1;replace m:=Hd m;replace h1:=Hd h1;replace ad:=Hd ad;replace ae:=Hd ae;replace h:=Hd h
 go_enter Tryz.func46,Tryz.ntmps46
 go_wp2_with fail
 rw [<-hW1.out];refine Ae (by kernel_rfl) (by kernel_rfl) ?_;repeat (go_big_quiet_step ((fail)))
 refine wpQuiet_nil ?_;rintro _ ⟨xq,rfl⟩;have hS:=Ah W1 xq;obtain ⟨W2,hW2⟩:∃W2,W2=grow W1 xq:=⟨_,rfl⟩;rw [<-hW2] at hS ⊢;replace hW2:=Hd hW2;have h2:=Hd (h1.out.grow hS);have j:Below w.heap.size w W2:=m.out.trans (hS.mono m.out.size);have af:W2.rangeAt w.heap.size 0 [.int .i64 0,.string ⟨#[]⟩,.int .i64 0,.float .f64 0,.bool false,.slice none 0 0]:=fun q x hq=>by rw [hS.cell (World.block_lt_of_cell? _ _ (ad.out q x hq))];exact ad.out q x hq
 have ag:Blk W2 w.heap.size:=ae.out.of_block (hS.block _ ae.out.lt);clear c0 c1 hS;replace j:=Hd j;replace af:=Hd af;replace ag:=Hd ag;have c0:=h2.out.scan.c0;have c1:=h2.out.scan.c1;have cc:=(j.out.cell (p:=⟨b,o+at_,none⟩) ac).trans hcel.out;have hgl2:g<W2.heap.size:=h2.out.scan.blk.lt;have hbl2:b<W2.heap.size:=Nat.lt_of_lt_of_le ac j.out.size;go_wp2_with fail
 refine Ae (by kernel_rfl) (by kernel_rfl) ?_;repeat (go_big_quiet_step ((go_at_call 63;(with_reducible exact Bl (Cx _ _)))))
 refine wpQuiet_nil ?_;rintro _ ⟨xq,rfl⟩;have hS:=Ah W2 xq;obtain ⟨W3,hW3⟩:∃W3,W3=grow W2 xq:=⟨_,rfl⟩;rw [<-hW3] at hS ⊢;replace hW3:=Hd hW3;have h3:=Hd (h2.out.grow hS);have ar:Below w.heap.size w W3:=j.out.trans (hS.mono j.out.size);have au:W3.rangeAt w.heap.size 0 [.int .i64 0,.string ⟨#[]⟩,.int .i64 0,.float .f64 0,.bool false,.slice none 0 0]:=fun q x hq=>by rw [hS.cell (World.block_lt_of_cell? _ _ (af.out q x hq))];exact af.out q x hq
 have av:Blk W3 w.heap.size:=ag.out.of_block (hS.block _ ag.out.lt);clear c0 c1 hS cc;replace ar:=Hd ar;replace au:=Hd au;replace av:=Hd av;rw [<-hkd];have hk0:((kd:Int) == 0)=false:=by simp;omega
 replace hkd:=Hd hkd;have c1:=h3.out.scan.c1;have fz:=h3.out.scan.blk.frz 1 none;go_wp2_with fail
 have e4:(at_:Int)+1=((at_+1:Nat):Int):=by omega
 rw [e4];have aw:Fr (fun k=>k=g) w (W3.setCell ⟨g,1,none⟩ (.int .i64 ((at_+1:Nat):Int))):=Fr.setCell (S:=fun k=>k=g) (Am ar.out) (fun _=>rfl) _;have h4:RS rp w0 (W3.setCell ⟨g,1,none⟩ (.int .i64 ((at_+1:Nat):Int))) g b o n cap s (at_+1) many:=h3.out.next (Fr.setCell (S:=fun k=>k=g) (Fr.refl _ _) (fun _=>rfl) _) (h3.out.scan.move _) (by omega);have ax:(W3.setCell ⟨g,1,none⟩ (.int .i64 ((at_+1:Nat):Int))).rangeAt w.heap.size 0 [.int .i64 0,.string ⟨#[]⟩,.int .i64 0,.float .f64 0,.bool false,.slice none 0 0]:=fun q x hq=>by
  rw [Ac (fun e=>by have:=congrArg Addr.block e;simp at this;omega)];exact au.out q x hq
 have ay:Blk (W3.setCell ⟨g,1,none⟩ (.int .i64 ((at_+1:Nat):Int))) w.heap.size:=av.out.setCell _ _;generalize W3.setCell ⟨g,1,none⟩ (.int .i64 ((at_+1:Nat):Int))=W4 at *;clear c1 fz e4;replace h4:=Hd h4;replace aw:=Hd aw;replace ax:=Hd ax;replace ay:=Hd ay;refine (Ft h4.out.scan h4.out.le (by rw [hL2.out];exact hl.out)).mono ?_;rintro e W6 ⟨rfl,z,bd,ap⟩;have h6:=Hd (h4.out.next z bd ap);have a9:=Hd (aw.out.trans z);have a:¬w.heap.size=g:=by omega
 have ah:W6.rangeAt w.heap.size 0 [.int .i64 0,.string ⟨#[]⟩,.int .i64 0,.float .f64 0,.bool false,.slice none 0 0]:=fun q x hq=>z.cell (ax.out q x hq) a;have ai:Blk W6 w.heap.size:=ay.out.fr z a;clear z bd ap;replace ah:=Hd ah;replace ai:=Hd ai;have ba:=Hd (number_got (w:=W6) (t:=⟨t.toArray⟩) (most:=4096) a8 (by omega) h6.out.nums hm);have bb:x.length<=4096:=by
  have:=long_len hlo;omega
 have az:∀W,Below W6.heap.size W6 W->Calls Tryz.prog 67 #[.pointer (some ⟨g,0,none⟩),.int .i64 (len:Int)] W fun e w' => e=.returned (.string ⟨x.toArray⟩)/\Fr (fun k=>k=g) W w' /\ Scan w' g b o n cap s (at_+1+u+(len+2)) many/\at_+1+u+(len+2)<=n:=fun W hW=>
  long_got (h6.out.grow hW).scan (h6.out.grow hW).le (by omega) (by rw [<-List.drop_drop,hL2.out];exact hlo)
 have hX:(⟨x.toArray⟩:ByteArray).size<=4096:=by rw [Ax];exact bb
 replace az:=Hd az;clear hm hlo a7 a8 bb;generalize (⟨t.toArray⟩:ByteArray)=T at *;rw [<-hkd.out] at hR;generalize (⟨x.toArray⟩:ByteArray)=X at *;replace hR:=Hd hR;go_upto_region 8 with fail
 go_cut [51] from 43 to 51 (fun s5 wx=>s5=.bool false/\wx=W6)
 case first=>
  rcases hk with rfl | rfl | rfl
  ·by_cases ht:t=[45,49]
   ·exact absurd ⟨ht,.inl rfl⟩ hn
   ·rw [decide_eq_false ht] at aq
    replace ht:=Hd ht;clear hn;go_wp2_with fail
    go_meet
    exact ⟨rfl,rfl⟩
  all_goals
   clear hn
   rcases Bool.eq_false_or_eq_true (decide (t=[45,49])) with hd | hd
   all_goals
    rw [hd] at aq
    replace hd:=Hd hd
    go_wp2_with fail
    go_meet
    exact ⟨rfl,rfl⟩
 obtain ⟨rfl,f⟩:=hcut;obtain rfl:=f.symm;clear f hn aq
 go_upto_if 54 with fail
 go_cut [54] from 54 to 57 (fun s5 wx=>s5=.bool true/\wx=W6)
 case first=>
  rcases hk with rfl | rfl | rfl
  all_goals
   go_wp2_with fail
   go_meet
   exact ⟨rfl,rfl⟩
 obtain ⟨rfl,f⟩:=hcut;obtain rfl:=f.symm;clear f;go_wp2_with fail
 refine ba.out.mono ?_;rintro e W7 ⟨rfl,hb⟩;have h7:=Hd (h6.out.grow hb);have bg:=Hd (a9.out.trans (Am (g:=g) hb));have a0:W7.rangeAt w.heap.size 0 [.int .i64 0,.string ⟨#[]⟩,.int .i64 0,.float .f64 0,.bool false,.slice none 0 0]:=fun q x hq=>by rw [(hb).cell (World.block_lt_of_cell? _ _ (ah.out q x hq))];exact ah.out q x hq
 have a1:Blk W7 w.heap.size:=ai.out.of_block ((hb).block _ ai.out.lt);replace a0:=Hd a0;replace a1:=Hd a1;go_wp2_with fail
 refine (az.out W7 hb).mono ?_;rintro e W8 ⟨rfl,aa,be,bf⟩;have h8:=h7.out.next aa be bf;have r:=bg.out.trans aa;have a:¬w.heap.size=g:=by omega
 have aj:W8.rangeAt w.heap.size 0 [.int .i64 0,.string ⟨#[]⟩,.int .i64 0,.float .f64 0,.bool false,.slice none 0 0]:=fun q x hq=>aa.cell (a0.out q x hq) a;have ak:Blk W8 w.heap.size:=a1.out.fr aa a;obtain ⟨W9,hW9⟩:∃W9,W9=W8.alloc (.cells #[.int .i64 (kd:Int),.string X,.int .i64 0,.float .f64 0,.bool false,.slice none 0 0] 26):=⟨_,rfl⟩;have al:Below W8.heap.size W8 W9:=by rw [hW9];exact (Below.refl _ _).alloc (Nat.le_refl _) _
 have l:=leaf_any (kd:Int) X 0 0 false (by rcases hk with h | h | h<;>(rw [h];rfl)) (by omega) W9
 have am:W9.rangeAt W8.heap.size 0 [.int .i64 (kd:Int),.string X,.int .i64 0,.float .f64 0,.bool false,.slice none 0 0]:=by
  rw [hW9];intro q x hq;rw [Nat.zero_add,World.cell?_alloc_new];simpa using hq
 clear aa be bf hb;replace h8:=Hd h8;replace r:=Hd r;replace aj:=Hd aj;replace ak:=Hd ak;replace am:=Hd am;replace al:=Hd al;replace hW9:=Hd hW9;obtain ⟨ck,hck0⟩:∃ck:Int,ck=if okV (Ar (kd:Int) X 0 0 false)=true then 0 else 31:=⟨_,rfl⟩;rw [<-hck0] at l;replace l:=Hd l;replace hck0:=Hd hck0;go_wp2_with fail
 rw [<-hW9.out];refine l.out.mono ?_;rintro e W10 ⟨rfl,ab⟩;have hb:=al.out.trans (ab.mono al.out.size);have y:W10.rangeAt W8.heap.size 0 [.int .i64 (kd:Int),.string X,.int .i64 0,.float .f64 0,.bool false,.slice none 0 0]:=fun q x hq=>by rw [ab.cell (World.block_lt_of_cell? _ _ (am.out q x hq))];exact am.out q x hq
 have hA:=Hd (h8.out.grow hb);have bc:=Hd (r.out.trans (Am (g:=g) hb));have a2:W10.rangeAt w.heap.size 0 [.int .i64 0,.string ⟨#[]⟩,.int .i64 0,.float .f64 0,.bool false,.slice none 0 0]:=fun q x hq=>by rw [hb.cell (World.block_lt_of_cell? _ _ (aj.out q x hq))];exact aj.out q x hq
 have a3:Blk W10 w.heap.size:=ak.out.of_block (hb.block _ ak.out.lt);clear hb ab;replace y:=Hd y;replace a2:=Hd a2;replace a3:=Hd a3;rcases hR.out with ⟨ok,a6⟩ | ⟨ok,a6⟩
 ·subst a6
  obtain rfl:ck=0:=by rw [hck0.out,if_pos ok]
  clear l hR;have an:=Af (n:=6) a2.out a3.out rfl;have a4:(W10.setCells w.heap.size 0 [.int .i64 (kd:Int),.string X,.int .i64 0,.float .f64 0,.bool false,.slice none 0 0]).rangeAt w.heap.size 0 [.int .i64 (kd:Int),.string X,.int .i64 0,.float .f64 0,.bool false,.slice none 0 0]:=World.rangeAt_setCells_same _ _ _ _ an;have ao:Fr (fun k=>k=w.heap.size) W10 (W10.setCells w.heap.size 0 [.int .i64 (kd:Int),.string X,.int .i64 0,.float .f64 0,.bool false,.slice none 0 0]):=Fr.setCells (S:=fun k=>k=w.heap.size) (fun _=>rfl) _ _ _ (Fr.refl _ _);have bh:=Hd (bc.out.trans_new ao (fun i hi e=>by omega))
  have a5:RS rp w0 (W10.setCells w.heap.size 0 [.int .i64 (kd:Int),.string X,.int .i64 0,.float .f64 0,.bool false,.slice none 0 0]) g b o n cap s _ many:=⟨hA.out.scan.fr ao (by omega) (by omega),hA.out.env,hA.out.below.trans (ao.below hA.out.below.size (fun i hi e=>by have:=hA.out.below.size;have:=hA.out.base;omega)),hA.out.base,hA.out.le⟩;replace an:=Hd an;replace a4:=Hd a4;replace a5:=Hd a5;clear ao
  go_wp2_with (first
   | (refine wpList_load_mid rfl 26 _ rfl W8.heap.size 0 rfl _ _ y.out Tryz.underlying26 rfl Ad ?_)
   | (refine wpList_store_mid rfl 26 _ _ rfl w.heap.size 0 _ rfl rfl an.out Ad (one6 _ _ _ _ _ _ _ _) ?_))
  refine bodyPost_ret (B9 (v:=.agg #[.int .i64 (kd:Int),.string X,.int .i64 0,.float .f64 0,.bool false,.slice none 0 0]) rfl rfl (run_loadVar_mid (P:=Tryz.prog) _ _ 0 26 _ _ a4.out Tryz.underlying26 rfl Ad)) rfl ?_;exact ⟨none,0,rfl,RV.leaf _ _ _ _ _ _ _ _,bh.out,by rw [show at_+(1+u+(len+2))=at_+1+u+(len+2) by omega];exact a5.out⟩
 ·subst a6
  obtain rfl:ck=31:=by rw [hck0.out,if_neg ok]
  clear l hR;go_wp2_with fail
  refine (Bf _).mono ?_;rintro e w' ⟨rfl,f⟩;obtain rfl:=f.symm;exact ⟨rfl,rfl,bc.out⟩
theorem rv_leaf {c:Addr->Option Value} (v:V) (h:v.list=[]):RV c (Ao v.kind v.text v.int v.real v.flag none v.list.length 0) v:=by
 cases v with
 | mk k t i r f l=>
  have:l=[]:=h;subst this;exact RV.leaf _ _ _ _ _ _ _ _
theorem shortO_list {o:Option Nat} {k:Nat} {t:ByteArray} {v:V} (h:Bm o k t=some v):v.list=[]:=by
 unfold Bm at h;split at h
 ·cases h;rfl
 split at h
 ·cases hw:wP t.data.toList with
  | none=>rw [hw] at h;cases h
  | some n=>rw [hw] at h;cases h;rfl
 split at h
 ·cases o with
  | none=>cases h
  | some r=>cases h;rfl
 split at h
 ·split at h
  ·cases h;rfl
  ·split at h
   ·cases h;rfl
   ·cases h
 ·split at h
  ·cases h;rfl
  ·cases h
theorem value_one {rp:Rp} {w0 w:World} {g b o n cap at_ many u:Nat} {s:ByteArray} {d:Int} {c:UInt8} {t L:List UInt8} {R:Out (V × Nat × Nat)} (h:RS rp w0 w g b o n cap s at_ many) (hL:s.data.toList.drop at_=c :: L)
  (hk:Ab c=1\/Ab c=2\/Ab c=9\/Ab c=3\/Ab c=7\/Ab c=8\/Ab c=6) (hl:Az L=.got (t,u)) (hK:Ab c=7->rp.K t)
  (hR:(∃v,Bm (rp t) (Ab c) ⟨t.toArray⟩=some v/\okV v=true/\R=.got (v,1+u,many))\/(R=.stop 51/\∀v,Bm (rp t) (Ab c) ⟨t.toArray⟩=some v->¬okV v=true)) :
  Calls Tryz.prog 46 #[.pointer (some ⟨g,0,none⟩),.int .i64 d] w (ValQ rp w0 g b o n cap s at_ R w):=by
 have hn:True/\Ab c=Ab c:=⟨trivial,rfl⟩;have m:∀W e w', ShortQ (Bm (rp t) (Ab c) ⟨t.toArray⟩) W e w' -> ((∃v,v.list=[]/\R=.got (v,1+u,many)/\e=.returned (.agg #[.int .i64 v.kind,.string v.text,.int .i64 v.int,.float .f64 v.real,.bool v.flag,.slice none 0 0]))\/(R=.stop 51/\e=C1 51))/\Below W.heap.size W w' := fun W e w' he=>by
  unfold ShortQ at he;rcases hR with ⟨v,h1,h2,h3⟩ | ⟨h1,h2⟩
  ·rw [h1] at he
   dsimp only at he;rw [if_pos h2] at he;exact ⟨.inl ⟨v,shortO_list h1,h3,he.1⟩,he.2⟩
  ·cases hs:Bm (rp t) (Ab c) ⟨t.toArray⟩ with
   | none=>rw [hs] at he;exact ⟨.inr ⟨h1,he.1⟩,he.2⟩
   | some v=>
    rw [hs] at he;dsimp only at he;rw [if_neg (h2 v hs)] at he;exact ⟨.inr ⟨h1,he.1⟩,he.2⟩
 clear hR;replace hK:=Hd hK;replace m:=Hd m;obtain ⟨kd,hkd⟩:∃kd,kd=Ab c:=⟨_,rfl⟩;rw [<-hkd] at hk hn;have av:=line_len hl;have aw:(⟨t.toArray⟩:ByteArray).size<=1000000:=by
  rw [Ax];show t.length<=_;omega
 have htl:((⟨t.toArray⟩:ByteArray).toList == [45,49])=decide (t=[45,49]):=by
  rw [ByteArray.toList_eq];show (t == [45,49])=_;rw [Bool.eq_iff_iff,beq_iff_eq,decide_eq_true_eq]
 replace hl:=Hd hl;have hlt:at_<n:=by
  rcases Nat.lt_or_ge at_ n with hh | hh
  ·exact hh
  ·rw [List.drop_of_length_le (by rw [<-Ax,h.scan.size];exact hh)] at hL;cases hL
 have hai:¬(n:Int)<=(at_:Int):=by omega
 have hai2:(at_:Int)<(n:Int):=by omega
 have hbig:=h.scan.big;obtain ⟨hcel,hL2⟩:w.cell? ⟨b,o+at_,none⟩=some (.int .u8 (c.toNat:Int))/\s.data.toList.drop (at_+1)=L:=by
  have hz:=h.scan.size;have h1:=h.scan.bytes at_ (by omega);have e1:=Lib.data_getElem? s at_ (by omega);have e2:s.data.toList[at_]?=some c:=by
   have:=congrArg (·[0]?) hL
   simp only [List.getElem?_drop,Nat.add_zero] at this;exact this
  rw [e1] at e2;rw [h1,Option.some.inj e2];refine ⟨rfl,?_⟩;rw [<-List.drop_drop,hL];rfl
 have r:=World.block_lt_of_cell? _ _ hcel;replace r:b<w.heap.size:=r;replace hL:=Hd hL;replace hL2:=Hd hL2;replace hcel:=Hd hcel;obtain ⟨W1,hW1⟩:∃W1,W1=w.alloc (.cells #[.int .i64 0,.string ⟨#[]⟩,.int .i64 0,.float .f64 0,.bool false,.slice none 0 0] 26):=⟨_,rfl⟩;have f:Below w.heap.size w W1:=by rw [hW1];exact (Below.refl _ _).alloc (Nat.le_refl _) _
 have h1:=h.grow f;have y:W1.rangeAt w.heap.size 0 [.int .i64 0,.string ⟨#[]⟩,.int .i64 0,.float .f64 0,.bool false,.slice none 0 0]:=by
  rw [hW1];intro q x hq;rw [Nat.zero_add,World.cell?_alloc_new];simpa using hq
 have z:Blk W1 w.heap.size:=by rw [hW1];exact Blk.new _ _ _
 have c0:=h1.scan.c0;have c1:=h1.scan.c1;have hgl:g<W1.heap.size:=h1.scan.blk.lt;have hgw:g<w.heap.size:=h.scan.blk.lt;replace hW1:=Hd hW1;replace f:=Hd f;replace h1:=Hd h1;replace y:=Hd y;replace z:=Hd z;replace h:=Hd h
 go_enter Tryz.func46,Tryz.ntmps46
 go_wp2_with fail
 rw [<-hW1.out];refine Ae (by kernel_rfl) (by kernel_rfl) ?_;repeat (go_big_quiet_step ((fail)))
 refine wpQuiet_nil ?_;rintro _ ⟨xq,rfl⟩;have hS:=Ah W1 xq;obtain ⟨W2,hW2⟩:∃W2,W2=grow W1 xq:=⟨_,rfl⟩;rw [<-hW2] at hS ⊢;replace hW2:=Hd hW2;have h2:=Hd (h1.out.grow hS);have a:Below w.heap.size w W2:=f.out.trans (hS.mono f.out.size);have aa:W2.rangeAt w.heap.size 0 [.int .i64 0,.string ⟨#[]⟩,.int .i64 0,.float .f64 0,.bool false,.slice none 0 0]:=fun q x hq=>by rw [hS.cell (World.block_lt_of_cell? _ _ (y.out q x hq))];exact y.out q x hq
 have ab:Blk W2 w.heap.size:=z.out.of_block (hS.block _ z.out.lt);clear c0 c1 hS;replace a:=Hd a;replace aa:=Hd aa;replace ab:=Hd ab;have c0:=h2.out.scan.c0;have c1:=h2.out.scan.c1;have cc:=(a.out.cell (p:=⟨b,o+at_,none⟩) r).trans hcel.out;have hgl2:g<W2.heap.size:=h2.out.scan.blk.lt;have hbl2:b<W2.heap.size:=Nat.lt_of_lt_of_le r a.out.size;go_wp2_with fail
 refine Ae (by kernel_rfl) (by kernel_rfl) ?_;repeat (go_big_quiet_step ((go_at_call 63;(with_reducible exact Bl (Cx _ _)))))
 refine wpQuiet_nil ?_;rintro _ ⟨xq,rfl⟩;have hS:=Ah W2 xq;obtain ⟨W3,hW3⟩:∃W3,W3=grow W2 xq:=⟨_,rfl⟩;rw [<-hW3] at hS ⊢;replace hW3:=Hd hW3;have h3:=Hd (h2.out.grow hS);have ak:Below w.heap.size w W3:=a.out.trans (hS.mono a.out.size);have al:W3.rangeAt w.heap.size 0 [.int .i64 0,.string ⟨#[]⟩,.int .i64 0,.float .f64 0,.bool false,.slice none 0 0]:=fun q x hq=>by rw [hS.cell (World.block_lt_of_cell? _ _ (aa.out q x hq))];exact aa.out q x hq
 have am:Blk W3 w.heap.size:=ab.out.of_block (hS.block _ ab.out.lt);clear c0 c1 hS cc;replace ak:=Hd ak;replace al:=Hd al;replace am:=Hd am;rw [<-hkd];have hk0:((kd:Int) == 0)=false:=by simp;omega
 replace hkd:=Hd hkd;have c1:=h3.out.scan.c1;have fz:=h3.out.scan.blk.frz 1 none;go_wp2_with fail
 have e4:(at_:Int)+1=((at_+1:Nat):Int):=by omega
 rw [e4];have an:Fr (fun k=>k=g) w (W3.setCell ⟨g,1,none⟩ (.int .i64 ((at_+1:Nat):Int))):=Fr.setCell (S:=fun k=>k=g) (Am ak.out) (fun _=>rfl) _;have h4:RS rp w0 (W3.setCell ⟨g,1,none⟩ (.int .i64 ((at_+1:Nat):Int))) g b o n cap s (at_+1) many:=h3.out.next (Fr.setCell (S:=fun k=>k=g) (Fr.refl _ _) (fun _=>rfl) _) (h3.out.scan.move _) (by omega);have ao:(W3.setCell ⟨g,1,none⟩ (.int .i64 ((at_+1:Nat):Int))).rangeAt w.heap.size 0 [.int .i64 0,.string ⟨#[]⟩,.int .i64 0,.float .f64 0,.bool false,.slice none 0 0]:=fun q x hq=>by
  rw [Ac (fun e=>by have:=congrArg Addr.block e;simp at this;omega)];exact al.out q x hq
 have ap:Blk (W3.setCell ⟨g,1,none⟩ (.int .i64 ((at_+1:Nat):Int))) w.heap.size:=am.out.setCell _ _;generalize W3.setCell ⟨g,1,none⟩ (.int .i64 ((at_+1:Nat):Int))=W4 at *;clear c1 fz e4;replace h4:=Hd h4;replace an:=Hd an;replace ao:=Hd ao;replace ap:=Hd ap;refine (Ft h4.out.scan h4.out.le (by rw [hL2.out];exact hl.out)).mono ?_;rintro e W6 ⟨rfl,l,ay,aj⟩;have h6:=Hd (h4.out.next l ay aj);have ah:=Hd (an.out.trans l);have ai:¬w.heap.size=g:=by omega
 have ac:W6.rangeAt w.heap.size 0 [.int .i64 0,.string ⟨#[]⟩,.int .i64 0,.float .f64 0,.bool false,.slice none 0 0]:=fun q x hq=>l.cell (ao.out q x hq) ai;have ad:Blk W6 w.heap.size:=ap.out.fr l ai;clear l ay aj;replace ac:=Hd ac;replace ad:=Hd ad;have az:=Hd ((short_any (w:=W6) (k:=kd) (t:=⟨t.toArray⟩) (o:=rp t) hk aw h6.out.nums (fun j W hW=>h6.out.env.real W (h6.out.grow hW).below t (hK.out (by rw [<-hkd.out];exact j)))).mono fun e w' he=>m.out W6 e w' (by rw [<-hkd.out];exact he));clear m hK;clear av aw;generalize (⟨t.toArray⟩:ByteArray)=T at *;have ax:(decide (t=[45,49]))=true\/(decide (t=[45,49]))=false:=by cases decide (t=[45,49])<;>simp
 generalize decide (t=[45,49])=D at *;clear hn;rcases ax with rfl | rfl;all_goals rcases hk with rfl | rfl | rfl | rfl | rfl | rfl | rfl
 all_goals
  go_wp2_with fail
  refine az.out.mono ?_
  rintro e W7 ⟨⟨v,ag,rfl,rfl⟩ | ⟨rfl,rfl⟩,hb⟩
  ·replace ag:=Hd ag
   have h7:=Hd (h6.out.grow hb);have a0:=Hd (ah.out.trans (Am (g:=g) hb));have aq:W7.rangeAt w.heap.size 0 [.int .i64 0,.string ⟨#[]⟩,.int .i64 0,.float .f64 0,.bool false,.slice none 0 0]:=fun q x hq=>by rw [(hb).cell (World.block_lt_of_cell? _ _ (ac.out q x hq))];exact ac.out q x hq
   have j:Blk W7 w.heap.size:=ad.out.of_block ((hb).block _ ad.out.lt);replace aq:=Hd aq;replace j:=Hd j;clear hb;have ae:=Af (n:=6) aq.out j.out rfl;have ar:(W7.setCells w.heap.size 0 [.int .i64 v.kind,.string v.text,.int .i64 v.int,.float .f64 v.real,.bool v.flag,.slice none 0 0]).rangeAt w.heap.size 0 [.int .i64 v.kind,.string v.text,.int .i64 v.int,.float .f64 v.real,.bool v.flag,.slice none 0 0]:=World.rangeAt_setCells_same _ _ _ _ ae;have af:Fr (fun k=>k=w.heap.size) W7 (W7.setCells w.heap.size 0 [.int .i64 v.kind,.string v.text,.int .i64 v.int,.float .f64 v.real,.bool v.flag,.slice none 0 0]):=Fr.setCells (S:=fun k=>k=w.heap.size) (fun _=>rfl) _ _ _ (Fr.refl _ _);have a1:=Hd (a0.out.trans_new af (fun i hi e=>by omega))
   have au:RS rp w0 (W7.setCells w.heap.size 0 [.int .i64 v.kind,.string v.text,.int .i64 v.int,.float .f64 v.real,.bool v.flag,.slice none 0 0]) g b o n cap s _ many:=⟨h7.out.scan.fr af (by omega) (by omega),h7.out.env,h7.out.below.trans (af.below h7.out.below.size (fun i hi e=>by have:=h7.out.below.size;have:=h7.out.base;omega)),h7.out.base,h7.out.le⟩;replace ae:=Hd ae;replace ar:=Hd ar;replace au:=Hd au;clear af;go_wp2_with (refine wpList_store_mid rfl 26 _ _ rfl w.heap.size 0 _ rfl rfl ae.out Ad (one6 _ _ _ _ _ _ _ _) ?_)
   refine bodyPost_ret (B9 (v:=.agg #[.int .i64 v.kind,.string v.text,.int .i64 v.int,.float .f64 v.real,.bool v.flag,.slice none 0 0]) rfl rfl (run_loadVar_mid (P:=Tryz.prog) _ _ 0 26 _ _ ar.out Tryz.underlying26 rfl Ad)) rfl ?_;exact ⟨none,0,by rw [ag.out];rfl,rv_leaf _ ag.out,a1.out,by rw [show at_+(1+u)=at_+1+u by omega];exact au.out⟩
  ·exact ⟨rfl,rfl,ah.out.trans (Am (g:=g) hb)⟩
theorem list_no {rp:Rp} {w0 w:World} {g b o n cap at_ many len:Nat} {s:ByteArray} {d kk:Int} (h:RS rp w0 w g b o n cap s at_ many) (hm:many<=1000000) (hl:len<=100000) (hbad:1000<many+len\/8<=d\/(kk=14/\(len=0\/0<d))) :
  Calls Tryz.prog 70 #[.pointer (some ⟨g,0,none⟩),.int .i64 kk,.int .i64 (len:Int),.int .i64 d] w fun e w' => e=C1 51/\Fr (fun k=>k=g) w w' := by
 have hkk:kk=kk:=rfl;obtain ⟨W1,hW1⟩:∃W1,W1=(w.alloc (.cells #[.int .i64 0,.string ⟨#[]⟩,.int .i64 0,.float .f64 0,.bool false,.slice none 0 0] 26)).alloc (.cells #[.int .i64 kk,.string ⟨#[]⟩,.int .i64 0,.float .f64 0,.bool false,.slice none 0 0] 26):=⟨_,rfl⟩;have hT:=Two.start w kk ⟨#[]⟩ 0 0 false;rw [<-hW1] at hT;have h1:=h.grow hT.below;have c2:=h1.scan.c2;have fz:=h1.scan.blk.frz 2 none;have e2:(many:Int)+(len:Int)=((many+len:Nat):Int):=by omega
 have hf:Fr (fun k=>k=g) w (W1.setCell ⟨g,2,none⟩ (.int .i64 ((many+len:Nat):Int))):=Fr.setCell (S:=fun k=>k=g) (Am hT.below) (fun _=>rfl) _;replace hf:=Hd hf;replace hW1:=Hd hW1;replace hT:=Hd hT;replace h1:=Hd h1;replace h:=Hd h;replace hbad:=Hd hbad;by_cases q1:1000<many+len
 ·have y1:(1000:Int)<(many:Int)+(len:Int):=by omega
  clear e2
  go_enter Tryz.func70,Tryz.ntmps70
  go_upto_region 2 with fail
  rw [<-hW1.out];go_wp2_with fail
  refine (Bf _).mono ?_;rintro e w' ⟨rfl,a⟩;obtain rfl:=a.symm;refine ⟨rfl,rfl,?_⟩;have:=hf.out;simpa using this
 ·have y1:¬(1000:Int)<(many:Int)+(len:Int):=by omega
  by_cases q2:8<=d
  ·clear e2
   go_enter Tryz.func70,Tryz.ntmps70
   go_upto_region 2 with fail
   rw [<-hW1.out];go_wp2_with fail
   refine (Bf _).mono ?_;rintro e w' ⟨rfl,a⟩;obtain rfl:=a.symm;refine ⟨rfl,rfl,?_⟩;have:=hf.out;simpa using this
  ·have q3:kk=14/\(len=0\/0<d):=by have:=hbad.out;omega
   obtain ⟨rfl,q4⟩:=q3;by_cases q5:len=0
   ·subst q5
    clear e2
    go_enter Tryz.func70,Tryz.ntmps70
    go_upto_region 2 with fail
    rw [<-hW1.out];go_wp2_with fail
    refine (Bf _).mono ?_;rintro e w' ⟨rfl,a⟩;obtain rfl:=a.symm;refine ⟨rfl,rfl,?_⟩;have:=hf.out;simpa using this
   ·have y5:((len:Int) == 0)=false:=by simp;omega
    have y6:0<d:=by omega
    clear e2
    go_enter Tryz.func70,Tryz.ntmps70
    go_upto_region 2 with fail
    rw [<-hW1.out];go_wp2_with fail
    refine (Bf _).mono ?_;rintro e w' ⟨rfl,a⟩;obtain rfl:=a.symm;refine ⟨rfl,rfl,?_⟩;have:=hf.out;simpa using this
structure LSr (rp:Rp) (w0 w wr:World) (g b o n cap:Nat) (s:ByteArray) (kk:Int) (at_ uj mj:Nat) (lv:Value) (css:List (List Value)) (lj:List V):Prop where
 rs:RS rp w0 wr g b o n cap s (at_+uj) mj
 many:mj<=1000
 own:wr.ownsRow (w.heap.size+2) 26 6 lv lj.length css.flatten
 vals:RVs (nf (w.heap.size+2) lv.ownBlock wr) css lj
 full:wr.rangeAt (w.heap.size+1) 0 [.int .i64 kk,.string ⟨#[]⟩,.int .i64 0,.float .f64 0,.bool false,lv]
 zero:wr.rangeAt w.heap.size 0 [.int .i64 0,.string ⟨#[]⟩,.int .i64 0,.float .f64 0,.bool false,.slice none 0 0]
 blk:Blk wr w.heap.size
 blk1:Blk wr (w.heap.size+1)
 fr:Fr (fun k=>k=g) w wr
 size:w.heap.size+2<=wr.heap.size
def Links (need:Nat->List UInt8->Prop) (f:Nat->List UInt8->Out (V × Nat × Nat)) (res:Out (List V × Nat × Nat)) (D:List UInt8) (at_ left uj mj:Nat) (lj:List V):Prop:=
 (match Bg f left mj (D.drop (at_+uj)) with
 | .stop q=>res=.stop q
 | .got (l,u,m)=>res=.got (lj++l,uj+u,m))/\needN need f left mj (D.drop (at_+uj))
theorem Links.need {need:Nat->List UInt8->Prop} {f:Nat->List UInt8->Out (V × Nat × Nat)} {res:Out (List V × Nat × Nat)} {D:List UInt8} {at_ left uj mj:Nat} {lj:List V} (h:Links need f res D at_ (left+1) uj mj lj):need mj (D.drop (at_+uj)):=h.2.1
theorem Links.stop {need:Nat->List UInt8->Prop} {f:Nat->List UInt8->Out (V × Nat × Nat)} {res:Out (List V × Nat × Nat)} {D:List UInt8} {at_ left uj mj q:Nat} {lj:List V} (h:Links need f res D at_ (left+1) uj mj lj) (hf:f mj (D.drop (at_+uj))=.stop q):res=.stop q:=by
 replace h:=h.1;rw [Bg,hf] at h;exact h
theorem Links.next {need:Nat->List UInt8->Prop} {f:Nat->List UInt8->Out (V × Nat × Nat)} {res:Out (List V × Nat × Nat)} {D:List UInt8} {at_ left uj mj u m:Nat} {lj:List V} {v:V} (h:Links need f res D at_ (left+1) uj mj lj) (hf:f mj (D.drop (at_+uj))=.got (v,u,m)) :
  Links need f res D at_ left (uj+u) m (lj++[v]):=by
 have a:=h.2.2 v u m hf;rw [List.drop_drop] at a;replace h:=h.1;unfold Links;refine ⟨?_,by rw [show at_+(uj+u)=at_+uj+u by omega];exact a⟩;rw [Bg,hf] at h;dsimp only at h;rw [List.drop_drop] at h;rw [show at_+(uj+u)=at_+uj+u by omega];cases hs:Bg f left m (D.drop (at_+uj+u)) with
 | stop q=>rw [hs] at h;exact h
 | got x=>
  obtain ⟨l,u2,m2⟩:=x;rw [hs] at h;dsimp only at h ⊢;rw [h];simp only [List.append_assoc,List.singleton_append,Nat.add_assoc]
theorem Links.last {need:Nat->List UInt8->Prop} {f:Nat->List UInt8->Out (V × Nat × Nat)} {res:Out (List V × Nat × Nat)} {D:List UInt8} {at_ uj mj:Nat} {lj:List V} (h:Links need f res D at_ 0 uj mj lj):res=.got (lj,uj,mj):=by
 replace h:=h.1;rw [Bg] at h;simpa using h
theorem Links.start {need:Nat->List UInt8->Prop} {f:Nat->List UInt8->Out (V × Nat × Nat)} {D:List UInt8} {at_ n m:Nat} (hnd:needN need f n m (D.drop at_)):Links need f (Bg f n m (D.drop at_)) D at_ n 0 m []:=by
 unfold Links;rw [Nat.add_zero];refine ⟨?_,hnd⟩;cases Bg f n m (D.drop at_) with
 | stop q=>rfl
 | got x=>obtain ⟨l,u,m2⟩:=x;simp
