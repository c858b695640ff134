/- The client: bytes come in. -/
import Derived.Test.YtfaihaoajdcjbaaGreatDoorCliAn
set_option linter.all false
namespace Go.Proofs.YtfaihaoajdcjbaaGreatDoor
open Go.RowKit
theorem Cells.main {w:World} {cb:Nat} {p:CAt} {s:CS} (h:Cells w cb p s) (v:Value) (q:Nat) (o:ByteArray):Cells w cb { p with mn:=p.mn,vm:=v,qm:=q } { s with main:=o }:=
 ⟨h.c0,h.c1,h.c2,h.c3,h.c4,h.c5,h.c6,h.c7,h.c8,h.c9,h.c10,h.c11,h.c12,h.c13,h.c14⟩
theorem Ec {ow:Nat->Nat} {w w' : World} {cb:Nat} {p:CAt} {rs:List (Option Addr × Nat)} {s:CS} (hC:Cells w cb p s) (hP:Parts ow w cb p rs s) {v:Value} {q:Nat} {o:ByteArray} (hf:Fr (fun k=>k=p.mn\/p.vm.ownBlock=some k) w w') (hb:Rdr (p.mn+1) w' p.mn v o q)
   (hn:∀k,v.ownBlock=some k->p.vm.ownBlock=some k\/w.heap.size<=k) :
   ∃ow', Cells w' cb { p with mn:=p.mn,vm:=v,qm:=q } { s with main:=o }/\Parts ow' w' cb { p with mn:=p.mn,vm:=v,qm:=q } rs { s with main:=o }/\CW ow w ow' w' /\ ∀k,w.heap.size<=k->v.ownBlock≠some k->ow' k=0:=by
 obtain ⟨h1,h2⟩:=hP.setMain hf hb (.inl rfl) hn;refine ⟨_,(hC.fr hf (fun e=>?_)).main v q o,h1,h2,fun k hk hne=>?_⟩
 · rcases e with e | e
   · have h3:=hP.omn;rw [<-e,hP.ocb] at h3;exact absurd h3 (by decide)
   · have h3:=hP.ovm cb e;rw [hP.ocb] at h3;exact absurd h3 (by decide)
 · unfold owN
   rw [if_neg (by omega),if_neg];intro hm;rcases List.mem_cons.1 hm with e | hm
   · have:=hP.main.blk.lt;omega
   · exact hne (A6.1 hm)
theorem newer_offO {ow:Nat->Nat} {B:Nat} {w:World} (h:∀k,B<=k->ow k=0):∀a u,Aq B w a=some u->offO ow w a=some u:=fun a u hu=>by
 unfold Aq at hu;split at hu
 · cases hu
 · rename_i hb;exact offO_mk hu (h _ (by omega))
set_option maxRecDepth 100000 in
set_option maxHeartbeats 6400000 in
theorem cfeed_any {ow:Nat->Nat} {w0:World} {cb:Nat} {s t:CS} {x:Value} {b:ByteArray} (h:Cli ow w0 cb s) (hx:Src Tryz.prog 1 32 x b.size (Lib.strCells b) w0) (ho:s.over=false) (hz:s.main.size+b.size<=1000000) (hf:Fed { s with main:=s.main++b } t) :
   Calls Tryz.prog 10 #[P0 cb,x] w0 fun e w' => e=.returned (.tuple #[])/\∃ow', Cli ow' w' cb t/\CW ow w0 ow' w' := by
 obtain ⟨p,rs,hC,hP,hq⟩:=h.out;have c14:=hC.c14;rw [ho] at c14;have c8:=hC.c8;have hm:=hP.main;rw [hq.1] at hm;replace hm:=Hd hm;replace hC:=Hd hC;replace hP:=Hd hP;replace hx:=Hd hx;replace hf:=Hd hf
 go_enter Tryz.func10,Tryz.ntmps10
 go_wp2_with fail
 refine (feed_okF hm.out hx.out (by omega)).mono ?_;rintro e w1 ⟨v1,rfl,hr1,hf1,hn1⟩;obtain ⟨o1,hC1,hP1,hw1,_⟩:=Ec hC.out hP.out hf1 hr1 hn1;have hcli:Cli o1 w1 cb { s with main:=s.main++b }:=⟨_,_,hC1,hP1,rfl,hq.2⟩
 clear hC1 hP1 hm hx hf1 hr1 hn1 c14 c8;replace hcli:=Hd hcli;replace hw1:=Hd hw1;go_wp2_with fail
 go_loopw [] (fun wr=>∃(sr:CS) (oo:Nat->Nat),Cli oo wr cb sr/\Fed sr t/\CW ow w0 oo wr) (fun wr=>cliN wr cb)
 case atStart=>exact ⟨_,o1,hcli.out,hf.out,hw1.out⟩
 case round=>
   obtain ⟨sr,oo,hcl,hfd,hcw⟩:=hrel;have hnum:=hcl.num;obtain ⟨p9,rs9,hC9,hP9,hq9⟩:=hcl.out;have c14:=hC9.c14;have c8:=hC9.c8;have hE:=env0 (s:=sr.main) hP9.laid.nums;have hmr:=hP9.main;rw [hq9.1] at hmr;clear hcli hf hw1;replace hC9:=Hd hC9;replace hP9:=Hd hP9;replace hcw:=Hd hcw;replace hE:=Hd hE;replace hmr:=Hd hmr;replace hnum:=Hd hnum;replace hcl:=Hd hcl;cases hfd with
   | over hov=>
     rw [hov] at c14;go_wp2_with fail
     go_end0
     exact ⟨rfl,oo,hcl.out,hcw.out⟩
   | wait hov hsz hs hnd=>
     rw [hov] at c14;replace hs:=Hd hs;replace hnd:=Hd hnd;go_wp2_with fail
     refine (next_stop0F hmr.out (by omega) hE.out hnd.out hs.out).mono ?_;rintro e w5 ⟨he,⟨v5,hr5,hn5⟩,hf5⟩;have he:e=.returned (.tuple #[.agg #[.int .i64 0,.string ⟨#[]⟩,.int .i64 0,.float .f64 0,.bool false,.slice none 0 0],.bool false,.int .i64 0]):=he;subst he;obtain ⟨o5,hC5,hP5,hw5,_⟩:=Ec hC9.out hP9.out (hf5.mono fun _ _ e=>.inl e) hr5 (fun k hk=>.inl (hn5 k hk));have hc5:Cli o5 w5 cb t:=⟨_,_,hC5,hP5,rfl,hq9.2⟩;have hw05:=Hd (hcw.out.trans hw5);clear hC5 hP5 hw5 hr5 hn5 hf5 hC9 hP9 hcw hcl hmr hE c14 c8;replace hc5:=Hd hc5;have hth:=Hd (Bj w5 40);have hnv:=Hd (Cw w5 40 [.int .i64 0,.string (⟨#[]⟩:ByteArray),.int .i64 0,.float .f64 0,.bool false,.slice none 0 0] rfl);have tok1:True:=trivial;go_upto_region 5 with (have _t:=tok1;refine wpList_store_mid rfl 40 _ _ rfl w5.heap.size 0 _ rfl rfl hth.out Ai (one6 _ _ _ _ _ _ _ _) ?_;clear tok1 _t)
     generalize (w5.alloc (.cells #[Value.int .i64 0,.string ⟨#[]⟩,.int .i64 0,.float .f64 0,.bool false,.slice none 0 0] 40)).setCells w5.heap.size 0 [Value.int .i64 0,.string (⟨#[]⟩:ByteArray),.int .i64 0,.float .f64 0,.bool false,.slice none 0 0]=w6 at hnv ⊢;obtain ⟨hb6,hr6,_⟩:=hnv.out;obtain ⟨G6,hGG6⟩:∃G,G=w5.heap.size:=⟨_,rfl⟩;rw [<-hGG6] at hr6 ⊢;replace hGG6:=Hd hGG6;clear hnv hth;obtain ⟨hc6,hw6⟩:=hc5.out.grow hb6;have hw:=Hd (hw05.out.trans hw6);clear hw6 hr6 hb6 hw05 hc5;replace hc6:=Hd hc6;go_wp2_with fail
     exact bodyPost_ret (results_none rfl _ _ _) rfl ⟨rfl,o5,hc6.out,hw.out⟩
   | @bad _ _ q hov hsz hs hq0 hnd ht=>
     rw [hov] at c14;have hqi:((q:Int) == 0)=false:=by rw [beq_eq_false_iff_ne];omega
     have hnum2:cliN wr cb=sr.main.size+1:=by rw [hnum.out,hov];rfl
     replace hnum2:=Hd hnum2;replace hs:=Hd hs;replace hnd:=Hd hnd;replace hq0:=Hd hq0;replace ht:=Hd ht;go_wp2_with fail
     refine (next_stopq hmr.out hq0.out (by omega) hE.out hnd.out hs.out).mono ?_;rintro e w5 ⟨he,hr5,hf5⟩;have he:e=.returned (.tuple #[.agg #[.int .i64 0,.string ⟨#[]⟩,.int .i64 0,.float .f64 0,.bool false,.slice none 0 0],.bool false,.int .i64 (q:Int)]):=he;subst he;obtain ⟨o5,hC5,hP5,hw5,_⟩:=Ec hC9.out hP9.out (hf5.mono fun _ _ e=>.inl e) hr5 (fun k hk=>by cases hk);have hw05:=Hd (hcw.out.trans hw5);clear hw5 hr5 hf5 hC9 hP9 hcw hcl hmr hE c14 c8;replace hC5:=Hd hC5;replace hP5:=Hd hP5;have hth:=Hd (Bj w5 40);have hnv:=Hd (Cw w5 40 [.int .i64 0,.string (⟨#[]⟩:ByteArray),.int .i64 0,.float .f64 0,.bool false,.slice none 0 0] rfl);have tok1:True:=trivial;go_upto_region 5 with (have _t:=tok1;refine wpList_store_mid rfl 40 _ _ rfl w5.heap.size 0 _ rfl rfl hth.out Ai (one6 _ _ _ _ _ _ _ _) ?_;clear tok1 _t)
     generalize (w5.alloc (.cells #[Value.int .i64 0,.string ⟨#[]⟩,.int .i64 0,.float .f64 0,.bool false,.slice none 0 0] 40)).setCells w5.heap.size 0 [Value.int .i64 0,.string (⟨#[]⟩:ByteArray),.int .i64 0,.float .f64 0,.bool false,.slice none 0 0]=w6 at hnv ⊢;obtain ⟨hb6,hr6,_⟩:=hnv.out;obtain ⟨G6,hGG6⟩:∃G,G=w5.heap.size:=⟨_,rfl⟩;rw [<-hGG6] at hr6 ⊢;replace hGG6:=Hd hGG6;clear hnv hth;obtain ⟨hP6,hw6⟩:=hP5.out.grow hb6;have hC6:=Hd (hC5.out.below hb6);have hw:=Hd (hw05.out.trans hw6);clear hw6 hr6 hb6 hw05 hC5 hP5;replace hP6:=Hd hP6;go_wp2_with fail
     refine (Em hC6.out hP6.out).mono ?_;rintro e w7 ⟨o7,rfl,hc7,hw7⟩;have hc7:Cli o7 w7 cb sr.close:=hc7;have hw07:=Hd (hw.out.trans hw7);have hnum7:=Hd (hc7.num);clear hw7 hC6 hP6 hw;replace hc7:=Hd hc7;go_wp2_with fail
     go_roundw
     case rel=>exact ⟨sr.close,o7,hc7.out,by rw [ht.out];exact .over rfl,hw07.out⟩
     case measure=>rw [hnum7.out,hnum2.out];simp [CS.close]
   | @ans _ _ x u m hov hsz hs hnd hu0 hu hk14 hcnt hrl hfd2=>
     rw [hov] at c14;have hk14b:(x.kind == 14)=false:=by rw [beq_eq_false_iff_ne];exact hk14
     have hnum2:cliN wr cb=sr.main.size+1:=by rw [hnum.out,hov];rfl
     replace hnum2:=Hd hnum2;replace hs:=Hd hs;replace hnd:=Hd hnd;replace hfd2:=Hd hfd2;have hlt9:(sr.main.extract u sr.main.size).size+1<sr.main.size+1:=by rw [ByteArray.size_extract];omega
     replace hlt9:=Hd hlt9;replace hk14:=Hd hk14;go_wp2_with fail
     refine (next_gotF hmr.out hu hu0 (by omega) hE.out hnd.out hs.out).mono ?_;rintro e w5 ⟨ax,cx,rfl,hrv5,⟨v5,hr5,hn5⟩,hf5⟩;obtain ⟨o5,hC5,hP5,hw5,hz5⟩:=Ec hC9.out hP9.out (hf5.mono fun _ _ e=>.inl e) hr5 (fun k hk=>.inl (hn5 k hk));have hx5:=Hd (hrv5.mono (newer_offO (ow:=o5) (fun k hk=>hz5 k hk (fun e=>by have:=(hmr.out.buf.block k (hn5 k e)).2;omega))));have hc5:Cli o5 w5 cb { sr with main:=sr.main.extract u sr.main.size }:=⟨_,_,hC5,hP5,rfl,hq9.2⟩
     have hw05:=Hd (hcw.out.trans hw5);clear hC5 hP5 hw5 hr5 hn5 hf5 hC9 hP9 hcw hcl hmr hE c14 c8 hz5 hrv5;replace hc5:=Hd hc5;have hth:=Hd (Bj w5 40);have hnv:=Hd (Cw w5 40 [.int .i64 x.kind,.string x.text,.int .i64 x.int,.float .f64 x.real,.bool x.flag,.slice ax x.list.length cx] rfl);have tok1:True:=trivial;go_upto_region 5 with (have _t:=tok1;refine wpList_store_mid rfl 40 _ _ rfl w5.heap.size 0 _ rfl rfl hth.out Ai (one6 _ _ _ _ _ _ _ _) ?_;clear tok1 _t)
     generalize (w5.alloc (.cells #[Value.int .i64 0,.string ⟨#[]⟩,.int .i64 0,.float .f64 0,.bool false,.slice none 0 0] 40)).setCells w5.heap.size 0 [Value.int .i64 x.kind,.string x.text,.int .i64 x.int,.float .f64 x.real,.bool x.flag,.slice ax x.list.length cx]=w6 at hnv ⊢;obtain ⟨hb6,hr6,_⟩:=hnv.out;obtain ⟨G6,hGG6⟩:∃G,G=w5.heap.size:=⟨_,rfl⟩;rw [<-hGG6] at hr6 ⊢;replace hGG6:=Hd hGG6;clear hnv hth;obtain ⟨hc6,hw6⟩:=hc5.out.grow hb6;have hx6:=Hd (hx5.out.mono (E3 hw6));have hw:=Hd (hw05.out.trans hw6);have g0:w6.cell? ⟨G6,0,none⟩=some (.int .i64 x.kind):=by have:=hr6 0 _ rfl;rwa [Nat.zero_add] at this
     clear hw6 hb6 hw05 hc5 hx5;replace hc6:=Hd hc6;replace hr6:=Hd hr6;have tok2:True:=trivial;go_wp2_with (have _t:=tok2;refine wpList_load_mid rfl 40 _ rfl G6 0 rfl _ _ hr6.out Tryz.underlying40 rfl Ai ?_;clear tok2 _t)
     refine (R2.answer_any hc6.out hx6.out (by omega) hrl).mono ?_;rintro e w7 ⟨rfl,o7,hc7,hw7⟩;have hw07:=Hd (hw.out.trans hw7);have hnum7:=Hd (hc7.num);have ham:=Hd (answer_main { sr with main:=sr.main.extract u sr.main.size } x)
     clear hw7 hc6 hw hx6 hr6;replace hc7:=Hd hc7;go_wp2_with fail
     go_roundw
     case rel=>exact ⟨_,o7,hc7.out,hfd2.out,hw07.out⟩
     case measure=>
       rw [hnum7.out,hnum2.out];rcases ham.out with h1 | ⟨h1,h2⟩
       · rw [if_pos h1];omega
       · rw [h2]
         show (if _ then 0 else (sr.main.extract u sr.main.size).size+1)<_;have h3:=hlt9.out;split<;>omega
end Go.Proofs.YtfaihaoajdcjbaaGreatDoor
