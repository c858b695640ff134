/- A mode of one's own. -/
import Derived.Test.YtfaihaoajdcjbaaGreatDoorJ17
import Derived.Lib.SliceRun
set_option linter.all false
namespace Go.Proofs.YtfaihaoajdcjbaaGreatDoor
open Go.RowKit
theorem eStrC:Elem Tryz.prog 22 9 1 16:=C1 Tryz.underlying22 (by decide) (by decide) (by kernel_rfl)
theorem strs_one (l:List ByteArray):(l.map Value.string).all (fun u=>u.oneCell')=true:=by simp [Value.oneCell']
set_option maxRecDepth 100000 in
set_option maxHeartbeats 1600000 in
theorem sclone_any (a:Option Addr) (n cap:Nat) (l:List ByteArray) (w:World) (hr:Reads w 1 (.slice a n cap) n (l.map Value.string)) (hn:n<=100000) :
   Calls Tryz.prog 52 #[.slice a n cap] w fun e w' => ∃(a' : Option Addr) (cap' : Nat),e=.returned (.slice a' n cap')/\w'.ownsRow w.heap.size 9 1 (.slice a' n cap') n (l.map Value.string)/\Below w.heap.size w w' := by
 have hnil:∀W,(binOp .eql 22 (.slice a n cap) (.slice none 0 0)).run Tryz.prog W=.ok (.bool a.isNone) W:=fun W=>Lib.run_eql_slice_nil W _ _ a n cap 0 0 Tryz.underlying22;cases a with
 | none=>
   have hl:=hr.len.2;simp only [List.length_map,Nat.mul_one] at hl;obtain rfl:n=0:=by
     rcases Nat.eq_zero_or_pos n with e | e
     · exact e
     · obtain ⟨b,o,h,_⟩:=hr.at (j:=0) (by rw [List.length_map];omega);cases h
   have hl0:l=[]:=List.length_eq_zero_iff.1 hl;subst hl0;clear hr
   go_enter Tryz.func52,Tryz.ntmps52
   go_wp2;go_ret;exact ⟨none,0,rfl,World.ownsRow_nil _ _ _ _,Below.refl _ _⟩
 | some ad=>
   have hal:=(Below.refl w.heap.size w).alloc (Nat.le_refl _) (.cells #[] 9);have hown:=Hd (owns_empty w 9 1);have hr2:=Hd (hr.below hal);have hone:=Hd (strs_one l);replace hal:=Hd hal;clear hr
   go_enter Tryz.func52,Tryz.ntmps52
   go_wp2_with (at_builtin;refine Da rfl rfl eStrC rfl hown.out rfl hr2.out (fun h=>by cases h) hone.out (by omega) (by simp) ?_)
   intro v' w' hown' hf hnw;obtain ⟨a3,c3,rfl⟩:=(Reads.of_owns hown').shape;have hbel:Below w.heap.size w w' := hal.out.trans (hf.below (by simp) (fun i hi h=>by simp [Value.ownBlock] at h;omega));clear hf hnw;go_wp2;go_ret;exact ⟨a3,c3,by first | rfl | simp,by simpa using hown', hbel⟩
abbrev C5 (m:Md) (pv:Value):Value:=.agg #[.bool m.on,.bool m.bcast,.bool m.optin,.bool m.optout,.bool m.noloop,.int .i64 m.redirect,pv]
theorem E5:(Tryz.prog.info? 24).map (·.size)=some 7:=by kernel_rfl
theorem one7m (a b c d e:Bool) (i:Int) (p:Option Addr) (n k:Nat):(#[Value.bool a,.bool b,.bool c,.bool d,.bool e,.int .i64 i,.slice p n k]:Array Value).all (·.oneCell')=true:=by simp [Value.oneCell']
set_option maxRecDepth 100000 in
set_option maxHeartbeats 3200000 in
theorem mcopy_any (m:Md) (a:Option Addr) (n cap:Nat) (w:World) (hr:Reads w 1 (.slice a n cap) n (m.prefixes.map Value.string)) (hn:n<=100000) :
   Calls Tryz.prog 29 #[C5 m (.slice a n cap)] w fun e w' => ∃(a' : Option Addr) (cap' : Nat),e=.returned (C5 m (.slice a' n cap'))/\w'.ownsRow (w.heap.size+2) 9 1 (.slice a' n cap') n (m.prefixes.map Value.string)/\Below w.heap.size w w' := by
 obtain ⟨B,hBs⟩:∃B,B=w.heap.size:=⟨_,rfl⟩;obtain ⟨on,bcast,optin,optout,noloop,redirect,prefixes⟩:=m;obtain ⟨W1,hW1⟩:∃W1,W1=w.alloc (.cells #[.bool on,.bool bcast,.bool optin,.bool optout,.bool noloop,.int .i64 redirect,.slice a n cap] 24):=⟨_,rfl⟩;obtain ⟨W2,hW2⟩:∃W2,W2=W1.alloc (.cells #[.bool false,.bool false,.bool false,.bool false,.bool false,.int .i64 0,.slice none 0 0] 24):=⟨_,rfl⟩;have hb1:Below w.heap.size w W1:=by rw [hW1];exact (Below.refl _ _).alloc (Nat.le_refl _) _
 have hb12:Below W1.heap.size W1 W2:=by rw [hW2];exact (Below.refl _ _).alloc (Nat.le_refl _) _
 have hs1:W1.heap.size=B+1:=by rw [hW1,hBs];simp
 have hs2:W2.heap.size=B+2:=by rw [hW2];simp [hs1]
 have hb2:=hb1.trans (hb12.mono hb1.size);have r1:W1.rangeAt B 0 [.bool on,.bool bcast,.bool optin,.bool optout,.bool noloop,.int .i64 redirect,.slice a n cap]:=by
   rw [hW1,hBs];intro q u hq;rw [Nat.zero_add,World.cell?_alloc_new];simpa using hq
 have r2:W2.rangeAt B 0 [.bool on,.bool bcast,.bool optin,.bool optout,.bool noloop,.int .i64 redirect,.slice a n cap]:=fun q u hq=>Aa hb12 _ _ (r1 q u hq);have kB:Blk W2 B:=by
   have h:Blk W1 B:=by rw [hW1,hBs];exact Blk.new _ _ _
   exact h.of_block (hb12.block _ h.lt)
 have th2:W2.there (B+1) 0 7:=by
   rw [hW2,<-hs1];exact At (n:=7) (cs:=[.bool false,.bool false,.bool false,.bool false,.bool false,.int .i64 0,.slice none 0 0]) (fun j y hj=>by rw [Nat.zero_add,World.cell?_alloc_new];simpa using hj) (Blk.new _ _ _) rfl
 have hr2:=hr.below hb2;have g6:W2.cell? ⟨B,6,none⟩=some (.slice a n cap):=by have:=r2 6 _ rfl;rwa [Nat.zero_add] at this
 clear hr r1;rw [<-hBs];replace hW1:=Hd hW1;replace hW2:=Hd hW2;replace hs1:=Hd hs1;replace hr2:=Hd hr2;replace r2:=Hd r2;replace th2:=Hd th2;replace hs2:=Hd hs2;replace hb2:=Hd hb2;replace hb12:=Hd hb12;replace hb1:=Hd hb1;replace hBs:=Hd hBs
 go_enter Tryz.func29,Tryz.ntmps29
 go_upto_region 1 with fail
 rw [<-hW1.out,<-hW2.out,<-hBs.out];go_wp2_with fail
 refine (sclone_any a n cap prefixes W2 hr2.out hn).mono ?_;rintro e w3 ⟨a3,c3,rfl,hown,hb3⟩;rw [hs2.out] at hown;have r3:w3.rangeAt B 0 [.bool on,.bool bcast,.bool optin,.bool optout,.bool noloop,.int .i64 redirect,.slice a n cap]:=fun q u hq=>Aa hb3 _ _ (r2.out q u hq);have k3:=kB.of_block (hb3.block _ kB.lt);have d6:w3.cell? ⟨B,6,none⟩=some (.slice a n cap):=Aa hb3 _ _ g6;have z6:=k3.frz 6 none;obtain ⟨W4,hW4⟩:∃W4,W4=w3.setCell ⟨B,6,none⟩ (.slice a3 n c3):=⟨_,rfl⟩;have r4:W4.rangeAt B 0 [.bool on,.bool bcast,.bool optin,.bool optout,.bool noloop,.int .i64 redirect,.slice a3 n c3]:=fun q u hq=>by
   have e6:q<7:=by have:=(List.getElem?_eq_some_iff.1 hq).1;simpa using this
   rw [hW4,Nat.zero_add];by_cases h6:q=6
   · subst h6
     cases hq
     exact Af d6
   · rw [Ab (by simp [Ne.symm h6])]
     have h9:=r3 q u (by
       rcases q with _ | _ | _ | _ | _ | _ | _ | q;all_goals first | exact hq | omega)
     rwa [Nat.zero_add] at h9
 have hf4:Fr (fun k=>k=B) w3 W4:=by rw [hW4];exact (Fr.refl (fun k=>k=B) w3).setCell (fun _=>rfl) _
 have hBw3:B+2<=w3.heap.size:=by have:=hb3.size;have:=hs2.out;omega
 have th4:W4.there (B+1) 0 7:=fun j hj=>by
   have h:=th2.out j hj;have e1:W4.heap[B+1]?=W2.heap[B+1]?:=(hf4.block (B+1) (by omega) (by show ¬B+1=B;omega)).trans (hb3.block _ (by have:=hs2.out;omega));rw [World.cell?_of_block (w:=W2) e1,World.frozen?_of_block (w:=W2) e1];exact h
 obtain ⟨W5,hW5⟩:∃W5,W5=W4.setCells (B+1) 0 [.bool on,.bool bcast,.bool optin,.bool optout,.bool noloop,.int .i64 redirect,.slice a3 n c3]:=⟨_,rfl⟩;have r5:W5.rangeAt (B+1) 0 [.bool on,.bool bcast,.bool optin,.bool optout,.bool noloop,.int .i64 redirect,.slice a3 n c3]:=by
   rw [hW5];exact World.rangeAt_setCells_same _ _ _ _ th4
 have hf5:Fr (fun k=>k=B\/k=B+1) w3 W5:=by
   rw [hW5];exact (hf4.mono (fun _ _ e=>.inl e)).trans (Fr.setCells (S:=fun k=>k=B\/k=B+1) (fun _=>.inr rfl) _ _ _ (Fr.refl _ _))
 have hown5:W5.ownsRow (B+2) 9 1 (.slice a3 n c3) n (prefixes.map Value.string):=Dj hown hf5 (fun q hq=>by have:=(An hown q hq).1;omega);have hbe:Below w.heap.size w W5:=(hb2.out.trans (hb3.mono hb2.out.size)).trans (hf5.below (by have h1:=hb2.out.size;have h2:=hb3.size;omega) (fun i hi e=>by have:=hBs.out;omega));clear r3 k3 hown hb3 hf4 hf5 g6 kB;replace r4:=Hd r4;replace th4:=Hd th4;replace r5:=Hd r5;replace hW4:=Hd hW4;replace hW5:=Hd hW5;replace hown5:=Hd hown5;replace hbe:=Hd hbe;go_upto_region 2 with fail
 rw [<-hW4.out];have tok1:True:=trivial;have tok2:True:=trivial
 go_wp2_with (first
   | (have _t:=tok1;refine wpList_load_mid rfl 24 _ rfl B 0 rfl _ _ r4.out Tryz.underlying24 rfl E5 ?_;clear tok1 _t)
   | (have _t:=tok2;refine wpList_store_mid rfl 24 _ _ rfl (B+1) 0 _ rfl rfl th4.out E5 (one7m _ _ _ _ _ _ _ _ _) ?_;clear tok2 _t))
 refine bodyPost_ret (Ax (v:=C5 ⟨on,bcast,optin,optout,noloop,redirect,prefixes⟩ (.slice a3 n c3)) rfl rfl (run_loadVar_mid (P:=Tryz.prog) _ _ 0 24 _ _ (by rw [<-hW5.out];exact r5.out) Tryz.underlying24 rfl E5)) rfl ⟨a3,c3,rfl,?_,?_⟩
 · rw [<-hW5.out];exact hown5.out
 · have h:=hbe.out
   rw [<-hBs.out] at h;rw [<-hW5.out];exact h
end Go.Proofs.YtfaihaoajdcjbaaGreatDoor
