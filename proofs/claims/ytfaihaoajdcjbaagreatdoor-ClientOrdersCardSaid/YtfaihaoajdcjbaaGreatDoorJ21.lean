/- The reader: values that are lines. -/
import Derived.Test.YtfaihaoajdcjbaaGreatDoorRdT
import Derived.Test.YtfaihaoajdcjbaaGreatDoorJ29
set_option linter.all false
namespace Go.Proofs.YtfaihaoajdcjbaaGreatDoor
open Go.RowKit
theorem rv_leaf {c:Addr->Option Value} (v:V) (h:v.list=[]):RV c (Aj v.kind v.text v.int v.real v.flag none v.list.length 0) v:=by
 cases v with
 | mk k t i r f l=>
   have:l=[]:=h;subst this;exact RV.leaf _ _ _ _ _ _ _ _
theorem shortO_list {o:Option Nat} {k:Nat} {t:ByteArray} {v:V} (h:Cc o k t=some v):v.list=[]:=by
 unfold Cc at h;split at h
 · cases h;rfl
 split at h
 · cases hw:wP t.data.toList with
   | none=>rw [hw] at h;cases h
   | some n=>rw [hw] at h;cases h;rfl
 split at h
 · cases o with
   | none=>cases h
   | some r=>cases h;rfl
 split at h
 · split at h
   · cases h;rfl
   · split at h
     · cases h;rfl
     · cases h
 · split at h
   · cases h;rfl
   · cases h
set_option maxRecDepth 100000 in
set_option maxHeartbeats 6400000 in
theorem Ei {rp:Rp} {w0 w:World} {g b o n cap at_ many u:Nat} {s:ByteArray} {d:Int} {c:UInt8} {t L:List UInt8} {R:Out (V × Nat × Nat)} (h:RS rp w0 w g b o n cap s at_ many) (hL:s.data.toList.drop at_=c :: L)
   (hk:Ae c=1\/Ae c=2\/Ae c=9\/Ae c=3\/Ae c=7\/Ae c=8\/Ae c=6) (hl:Bp L=.got (t,u)) (hK:Ae c=7->rp.K t)
   (hR:(∃v,Cc (rp t) (Ae c) ⟨t.toArray⟩=some v/\okV v=true/\R=.got (v,1+u,many))\/(R=.stop 51/\∀v,Cc (rp t) (Ae c) ⟨t.toArray⟩=some v->¬okV v=true)) :
   Calls Tryz.prog 77 #[.pointer (some ⟨g,0,none⟩),.int .i64 d] w (ValQ rp w0 g b o n cap s at_ R w):=by
 have hn:True/\Ae c=Ae c:=⟨trivial,rfl⟩;have hsQ:∀W e w', De (Cc (rp t) (Ae c) ⟨t.toArray⟩) W e w' -> ((∃v,v.list=[]/\R=.got (v,1+u,many)/\e=.returned (.agg #[.int .i64 v.kind,.string v.text,.int .i64 v.int,.float .f64 v.real,.bool v.flag,.slice none 0 0]))\/(R=.stop 51/\e=Bf 51))/\Below W.heap.size W w' := fun W e w' he=>by
   unfold De at he;rcases hR with ⟨v,h1,h2,h3⟩ | ⟨h1,h2⟩
   · rw [h1] at he
     dsimp only at he;rw [if_pos h2] at he;exact ⟨.inl ⟨v,shortO_list h1,h3,he.1⟩,he.2⟩
   · cases hs:Cc (rp t) (Ae c) ⟨t.toArray⟩ with
     | none=>rw [hs] at he;exact ⟨.inr ⟨h1,he.1⟩,he.2⟩
     | some v=>
       rw [hs] at he;dsimp only at he;rw [if_neg (h2 v hs)] at he;exact ⟨.inr ⟨h1,he.1⟩,he.2⟩
 clear hR;replace hK:=Hd hK;replace hsQ:=Hd hsQ;obtain ⟨kd,hkd⟩:∃kd,kd=Ae c:=⟨_,rfl⟩;rw [<-hkd] at hk hn;have hlen:=Dg hl;have hts:(⟨t.toArray⟩:ByteArray).size<=1000000:=by
   rw [Am];show t.length<=_;omega
 have htl:((⟨t.toArray⟩:ByteArray).toList == [45,49])=decide (t=[45,49]):=by
   rw [ByteArray.toList_eq];show (t == [45,49])=_;rw [Bool.eq_iff_iff,beq_iff_eq,decide_eq_true_eq]
 replace hl:=Hd hl;have hlt:at_<n:=by
   rcases Nat.lt_or_ge at_ n with hh | hh
   · exact hh
   · rw [List.drop_of_length_le (by rw [<-Am,h.scan.size];exact hh)] at hL;cases hL
 have hai:¬(n:Int)<=(at_:Int):=by omega
 have hai2:(at_:Int)<(n:Int):=by omega
 have hbig:=h.scan.big;obtain ⟨hcel,hL2⟩:w.cell? ⟨b,o+at_,none⟩=some (.int .u8 (c.toNat:Int))/\s.data.toList.drop (at_+1)=L:=by
   have hz:=h.scan.size;have h1:=h.scan.bytes at_ (by omega);have e1:=Lib.data_getElem? s at_ (by omega);have e2:s.data.toList[at_]?=some c:=by
     have:=congrArg (·[0]?) hL
     simp only [List.getElem?_drop,Nat.add_zero] at this;exact this
   rw [e1] at e2;rw [h1,Option.some.inj e2];refine ⟨rfl,?_⟩;rw [<-List.drop_drop,hL];rfl
 have hcb:=World.block_lt_of_cell? _ _ hcel;replace hcb:b<w.heap.size:=hcb;replace hL:=Hd hL;replace hL2:=Hd hL2;replace hcel:=Hd hcel;obtain ⟨W1,hW1⟩:∃W1,W1=w.alloc (.cells #[.int .i64 0,.string ⟨#[]⟩,.int .i64 0,.float .f64 0,.bool false,.slice none 0 0] 40):=⟨_,rfl⟩;have hb1:Below w.heap.size w W1:=by rw [hW1];exact (Below.refl _ _).alloc (Nat.le_refl _) _
 have h1:=h.grow hb1;have hz1:W1.rangeAt w.heap.size 0 [.int .i64 0,.string ⟨#[]⟩,.int .i64 0,.float .f64 0,.bool false,.slice none 0 0]:=by
   rw [hW1];intro q x hq;rw [Nat.zero_add,World.cell?_alloc_new];simpa using hq
 have hk1:Blk W1 w.heap.size:=by rw [hW1];exact Blk.new _ _ _
 have c0:=h1.scan.c0;have c1:=h1.scan.c1;have hgl:g<W1.heap.size:=h1.scan.blk.lt;have hgw:g<w.heap.size:=h.scan.blk.lt;replace hW1:=Hd hW1;replace hb1:=Hd hb1;replace h1:=Hd h1;replace hz1:=Hd hz1;replace hk1:=Hd hk1;replace h:=Hd h
 go_enter Tryz.func77,Tryz.ntmps77
 go_wp2_with fail
 rw [<-hW1.out];refine Ad (by kernel_rfl) (by kernel_rfl) ?_;repeat (go_big_quiet_step ((fail)))
 refine wpQuiet_nil ?_;rintro _ ⟨xq,rfl⟩;have hS:=Ag W1 xq;obtain ⟨W2,hW2⟩:∃W2,W2=grow W1 xq:=⟨_,rfl⟩;rw [<-hW2] at hS ⊢;replace hW2:=Hd hW2;have h2:=Hd (h1.out.grow hS);have hb2:Below w.heap.size w W2:=hb1.out.trans (hS.mono hb1.out.size);have hz2:W2.rangeAt w.heap.size 0 [.int .i64 0,.string ⟨#[]⟩,.int .i64 0,.float .f64 0,.bool false,.slice none 0 0]:=fun q x hq=>by rw [hS.cell (World.block_lt_of_cell? _ _ (hz1.out q x hq))];exact hz1.out q x hq
 have hk2:Blk W2 w.heap.size:=hk1.out.of_block (hS.block _ hk1.out.lt);clear c0 c1 hS;replace hb2:=Hd hb2;replace hz2:=Hd hz2;replace hk2:=Hd hk2;have c0:=h2.out.scan.c0;have c1:=h2.out.scan.c1;have cc:=(hb2.out.cell (p:=⟨b,o+at_,none⟩) hcb).trans hcel.out;have hgl2:g<W2.heap.size:=h2.out.scan.blk.lt;have hbl2:b<W2.heap.size:=Nat.lt_of_lt_of_le hcb hb2.out.size;go_wp2_with fail
 refine Ad (by kernel_rfl) (by kernel_rfl) ?_;repeat (go_big_quiet_step ((go_at_call 99;(with_reducible exact Bb (Bc _ _)))))
 refine wpQuiet_nil ?_;rintro _ ⟨xq,rfl⟩;have hS:=Ag W2 xq;obtain ⟨W3,hW3⟩:∃W3,W3=grow W2 xq:=⟨_,rfl⟩;rw [<-hW3] at hS ⊢;replace hW3:=Hd hW3;have h3:=Hd (h2.out.grow hS);have hb3:Below w.heap.size w W3:=hb2.out.trans (hS.mono hb2.out.size);have hz3:W3.rangeAt w.heap.size 0 [.int .i64 0,.string ⟨#[]⟩,.int .i64 0,.float .f64 0,.bool false,.slice none 0 0]:=fun q x hq=>by rw [hS.cell (World.block_lt_of_cell? _ _ (hz2.out q x hq))];exact hz2.out q x hq
 have hk3:Blk W3 w.heap.size:=hk2.out.of_block (hS.block _ hk2.out.lt);clear c0 c1 hS cc;replace hb3:=Hd hb3;replace hz3:=Hd hz3;replace hk3:=Hd hk3;rw [<-hkd];have hk0:((kd:Int) == 0)=false:=by simp;omega
 replace hkd:=Hd hkd;have c1:=h3.out.scan.c1;have fz:=h3.out.scan.blk.frz 1 none;go_wp2_with fail
 have e4:(at_:Int)+1=((at_+1:Nat):Int):=by omega
 rw [e4];have hf4:Fr (fun k=>k=g) w (W3.setCell ⟨g,1,none⟩ (.int .i64 ((at_+1:Nat):Int))):=Fr.setCell (S:=fun k=>k=g) (Ah hb3.out) (fun _=>rfl) _;have h4:RS rp w0 (W3.setCell ⟨g,1,none⟩ (.int .i64 ((at_+1:Nat):Int))) g b o n cap s (at_+1) many:=h3.out.next (Fr.setCell (S:=fun k=>k=g) (Fr.refl _ _) (fun _=>rfl) _) (h3.out.scan.move _) (by omega);have hz4:(W3.setCell ⟨g,1,none⟩ (.int .i64 ((at_+1:Nat):Int))).rangeAt w.heap.size 0 [.int .i64 0,.string ⟨#[]⟩,.int .i64 0,.float .f64 0,.bool false,.slice none 0 0]:=fun q x hq=>by
   rw [Ab (fun e=>by have:=congrArg Addr.block e;simp at this;omega)];exact hz3.out q x hq
 have hk4:Blk (W3.setCell ⟨g,1,none⟩ (.int .i64 ((at_+1:Nat):Int))) w.heap.size:=hk3.out.setCell _ _;generalize W3.setCell ⟨g,1,none⟩ (.int .i64 ((at_+1:Nat):Int))=W4 at *;clear c1 fz e4;replace h4:=Hd h4;replace hf4:=Hd hf4;replace hz4:=Hd hz4;replace hk4:=Hd hk4;refine (Cm h4.out.scan h4.out.le (by rw [hL2.out];exact hl.out)).mono ?_;rintro e W6 ⟨rfl,hf6,hs6,hle6⟩;have h6:=Hd (h4.out.next hf6 hs6 hle6);have hf06:=Hd (hf4.out.trans hf6);have hne6:¬w.heap.size=g:=by omega
 have hz6:W6.rangeAt w.heap.size 0 [.int .i64 0,.string ⟨#[]⟩,.int .i64 0,.float .f64 0,.bool false,.slice none 0 0]:=fun q x hq=>hf6.cell (hz4.out q x hq) hne6;have hk6:Blk W6 w.heap.size:=hk4.out.fr hf6 hne6;clear hf6 hs6 hle6;replace hz6:=Hd hz6;replace hk6:=Hd hk6;have hsh:=Hd ((short_any (w:=W6) (k:=kd) (t:=⟨t.toArray⟩) (o:=rp t) hk hts h6.out.nums (fun hk7 W hW=>h6.out.env.real W (h6.out.grow hW).below t (hK.out (by rw [<-hkd.out];exact hk7)))).mono fun e w' he=>hsQ.out W6 e w' (by rw [<-hkd.out];exact he));clear hsQ hK;clear hlen hts;generalize (⟨t.toArray⟩:ByteArray)=T at *;have hd45:(decide (t=[45,49]))=true\/(decide (t=[45,49]))=false:=by cases decide (t=[45,49])<;>simp
 generalize decide (t=[45,49])=D at *;clear hn;rcases hd45 with rfl | rfl;all_goals rcases hk with rfl | rfl | rfl | rfl | rfl | rfl | rfl
 all_goals
   go_wp2_with fail
   refine hsh.out.mono ?_
   rintro e W7 ⟨⟨v,hvl,rfl,rfl⟩ | ⟨rfl,rfl⟩,hb⟩
   · replace hvl:=Hd hvl
     have h7:=Hd (h6.out.grow hb);have hf7:=Hd (hf06.out.trans (Ah (g:=g) hb));have hz7:W7.rangeAt w.heap.size 0 [.int .i64 0,.string ⟨#[]⟩,.int .i64 0,.float .f64 0,.bool false,.slice none 0 0]:=fun q x hq=>by rw [(hb).cell (World.block_lt_of_cell? _ _ (hz6.out q x hq))];exact hz6.out q x hq
     have hk7:Blk W7 w.heap.size:=hk6.out.of_block ((hb).block _ hk6.out.lt);replace hz7:=Hd hz7;replace hk7:=Hd hk7;clear hb;have htC:=At (n:=6) hz7.out hk7.out rfl;have hrR:(W7.setCells w.heap.size 0 [.int .i64 v.kind,.string v.text,.int .i64 v.int,.float .f64 v.real,.bool v.flag,.slice none 0 0]).rangeAt w.heap.size 0 [.int .i64 v.kind,.string v.text,.int .i64 v.int,.float .f64 v.real,.bool v.flag,.slice none 0 0]:=World.rangeAt_setCells_same _ _ _ _ htC;have hfw:Fr (fun k=>k=w.heap.size) W7 (W7.setCells w.heap.size 0 [.int .i64 v.kind,.string v.text,.int .i64 v.int,.float .f64 v.real,.bool v.flag,.slice none 0 0]):=Fr.setCells (S:=fun k=>k=w.heap.size) (fun _=>rfl) _ _ _ (Fr.refl _ _);have hff:=Hd (hf7.out.trans_new hfw (fun i hi e=>by omega))
     have hrs:RS rp w0 (W7.setCells w.heap.size 0 [.int .i64 v.kind,.string v.text,.int .i64 v.int,.float .f64 v.real,.bool v.flag,.slice none 0 0]) g b o n cap s _ many:=⟨h7.out.scan.fr hfw (by omega) (by omega),h7.out.env,h7.out.below.trans (hfw.below h7.out.below.size (fun i hi e=>by have:=h7.out.below.size;have:=h7.out.base;omega)),h7.out.base,h7.out.le⟩;replace htC:=Hd htC;replace hrR:=Hd hrR;replace hrs:=Hd hrs;clear hfw;go_wp2_with (refine wpList_store_mid rfl 40 _ _ rfl w.heap.size 0 _ rfl rfl htC.out Ai (one6 _ _ _ _ _ _ _ _) ?_)
     refine bodyPost_ret (Ax (v:=.agg #[.int .i64 v.kind,.string v.text,.int .i64 v.int,.float .f64 v.real,.bool v.flag,.slice none 0 0]) rfl rfl (run_loadVar_mid (P:=Tryz.prog) _ _ 0 40 _ _ hrR.out Tryz.underlying40 rfl Ai)) rfl ?_;exact ⟨none,0,by rw [hvl.out];rfl,rv_leaf _ hvl.out,hff.out,by rw [show at_+(1+u)=at_+1+u by omega];exact hrs.out⟩
   · exact ⟨rfl,rfl,hf06.out.trans (Ah (g:=g) hb)⟩
set_option maxRecDepth 100000 in
set_option maxHeartbeats 3200000 in
theorem list_no {rp:Rp} {w0 w:World} {g b o n cap at_ many len:Nat} {s:ByteArray} {d kk:Int} (h:RS rp w0 w g b o n cap s at_ many) (hm:many<=1000000) (hl:len<=100000) (hbad:1000<many+len\/8<=d\/(kk=14/\(len=0\/0<d))) :
   Calls Tryz.prog 106 #[.pointer (some ⟨g,0,none⟩),.int .i64 kk,.int .i64 (len:Int),.int .i64 d] w fun e w' => e=Bf 51/\Fr (fun k=>k=g) w w' := by
 have hkk:kk=kk:=rfl;obtain ⟨W1,hW1⟩:∃W1,W1=(w.alloc (.cells #[.int .i64 0,.string ⟨#[]⟩,.int .i64 0,.float .f64 0,.bool false,.slice none 0 0] 40)).alloc (.cells #[.int .i64 kk,.string ⟨#[]⟩,.int .i64 0,.float .f64 0,.bool false,.slice none 0 0] 40):=⟨_,rfl⟩;have hT:=Two.start w kk ⟨#[]⟩ 0 0 false;rw [<-hW1] at hT;have h1:=h.grow hT.below;have c2:=h1.scan.c2;have fz:=h1.scan.blk.frz 2 none;have e2:(many:Int)+(len:Int)=((many+len:Nat):Int):=by omega
 have hf:Fr (fun k=>k=g) w (W1.setCell ⟨g,2,none⟩ (.int .i64 ((many+len:Nat):Int))):=Fr.setCell (S:=fun k=>k=g) (Ah hT.below) (fun _=>rfl) _;replace hf:=Hd hf;replace hW1:=Hd hW1;replace hT:=Hd hT;replace h1:=Hd h1;replace h:=Hd h;replace hbad:=Hd hbad;by_cases q1:1000<many+len
 · have y1:(1000:Int)<(many:Int)+(len:Int):=by omega
   clear e2
   go_enter Tryz.func106,Tryz.ntmps106
   go_upto_region 2 with fail
   rw [<-hW1.out];go_wp2_with fail
   refine (Au _).mono ?_;rintro e w' ⟨rfl,hww⟩;obtain rfl:=hww.symm;refine ⟨rfl,rfl,?_⟩;have:=hf.out;simpa using this
 · have y1:¬(1000:Int)<(many:Int)+(len:Int):=by omega
   by_cases q2:8<=d
   · clear e2
     go_enter Tryz.func106,Tryz.ntmps106
     go_upto_region 2 with fail
     rw [<-hW1.out];go_wp2_with fail
     refine (Au _).mono ?_;rintro e w' ⟨rfl,hww⟩;obtain rfl:=hww.symm;refine ⟨rfl,rfl,?_⟩;have:=hf.out;simpa using this
   · have q3:kk=14/\(len=0\/0<d):=by have:=hbad.out;omega
     obtain ⟨rfl,q4⟩:=q3;by_cases q5:len=0
     · subst q5
       clear e2
       go_enter Tryz.func106,Tryz.ntmps106
       go_upto_region 2 with fail
       rw [<-hW1.out];go_wp2_with fail
       refine (Au _).mono ?_;rintro e w' ⟨rfl,hww⟩;obtain rfl:=hww.symm;refine ⟨rfl,rfl,?_⟩;have:=hf.out;simpa using this
     · have y5:((len:Int) == 0)=false:=by simp;omega
       have y6:0<d:=by omega
       clear e2
       go_enter Tryz.func106,Tryz.ntmps106
       go_upto_region 2 with fail
       rw [<-hW1.out];go_wp2_with fail
       refine (Au _).mono ?_;rintro e w' ⟨rfl,hww⟩;obtain rfl:=hww.symm;refine ⟨rfl,rfl,?_⟩;have:=hf.out;simpa using this
structure LSr (rp:Rp) (w0 w wr:World) (g b o n cap:Nat) (s:ByteArray) (kk:Int) (at_ uj mj:Nat) (lv:Value) (css:List (List Value)) (lj:List V):Prop where
 rs:RS rp w0 wr g b o n cap s (at_+uj) mj
 many:mj<=1000
 own:wr.ownsRow (w.heap.size+2) 40 6 lv lj.length css.flatten
 vals:RVs (nf (w.heap.size+2) lv.ownBlock wr) css lj
 full:wr.rangeAt (w.heap.size+1) 0 [.int .i64 kk,.string ⟨#[]⟩,.int .i64 0,.float .f64 0,.bool false,lv]
 zero:wr.rangeAt w.heap.size 0 [.int .i64 0,.string ⟨#[]⟩,.int .i64 0,.float .f64 0,.bool false,.slice none 0 0]
 blk:Blk wr w.heap.size
 blk1:Blk wr (w.heap.size+1)
 fr:Fr (fun k=>k=g) w wr
 size:w.heap.size+2<=wr.heap.size
def Links (need:Nat->List UInt8->Prop) (f:Nat->List UInt8->Out (V × Nat × Nat)) (res:Out (List V × Nat × Nat)) (D:List UInt8) (at_ left uj mj:Nat) (lj:List V):Prop:=
 (match Bo f left mj (D.drop (at_+uj)) with
 | .stop q=>res=.stop q
 | .got (l,u,m)=>res=.got (lj++l,uj+u,m))/\needN need f left mj (D.drop (at_+uj))
theorem Links.need {need:Nat->List UInt8->Prop} {f:Nat->List UInt8->Out (V × Nat × Nat)} {res:Out (List V × Nat × Nat)} {D:List UInt8} {at_ left uj mj:Nat} {lj:List V} (h:Links need f res D at_ (left+1) uj mj lj):need mj (D.drop (at_+uj)):=h.2.1
theorem Links.stop {need:Nat->List UInt8->Prop} {f:Nat->List UInt8->Out (V × Nat × Nat)} {res:Out (List V × Nat × Nat)} {D:List UInt8} {at_ left uj mj q:Nat} {lj:List V} (h:Links need f res D at_ (left+1) uj mj lj) (hf:f mj (D.drop (at_+uj))=.stop q):res=.stop q:=by
 replace h:=h.1;rw [Bo,hf] at h;exact h
theorem Links.next {need:Nat->List UInt8->Prop} {f:Nat->List UInt8->Out (V × Nat × Nat)} {res:Out (List V × Nat × Nat)} {D:List UInt8} {at_ left uj mj u m:Nat} {lj:List V} {v:V} (h:Links need f res D at_ (left+1) uj mj lj) (hf:f mj (D.drop (at_+uj))=.got (v,u,m)) :
   Links need f res D at_ left (uj+u) m (lj++[v]):=by
 have hnd:=h.2.2 v u m hf;rw [List.drop_drop] at hnd;replace h:=h.1;unfold Links;refine ⟨?_,by rw [show at_+(uj+u)=at_+uj+u by omega];exact hnd⟩;rw [Bo,hf] at h;dsimp only at h;rw [List.drop_drop] at h;rw [show at_+(uj+u)=at_+uj+u by omega];cases hs:Bo f left m (D.drop (at_+uj+u)) with
 | stop q=>rw [hs] at h;exact h
 | got x=>
   obtain ⟨l,u2,m2⟩:=x;rw [hs] at h;dsimp only at h ⊢;rw [h];simp only [List.append_assoc,List.singleton_append,Nat.add_assoc]
theorem Links.last {need:Nat->List UInt8->Prop} {f:Nat->List UInt8->Out (V × Nat × Nat)} {res:Out (List V × Nat × Nat)} {D:List UInt8} {at_ uj mj:Nat} {lj:List V} (h:Links need f res D at_ 0 uj mj lj):res=.got (lj,uj,mj):=by
 replace h:=h.1;rw [Bo] at h;simpa using h
theorem Links.start {need:Nat->List UInt8->Prop} {f:Nat->List UInt8->Out (V × Nat × Nat)} {D:List UInt8} {at_ n m:Nat} (hnd:needN need f n m (D.drop at_)):Links need f (Bo f n m (D.drop at_)) D at_ n 0 m []:=by
 unfold Links;rw [Nat.add_zero];refine ⟨?_,hnd⟩;cases Bo f n m (D.drop at_) with
 | stop q=>rfl
 | got x=>obtain ⟨l,u,m2⟩:=x;simp
end Go.Proofs.YtfaihaoajdcjbaaGreatDoor
