/- client.New. -/
import Derived.Test.YtfaihaoajdcjbaaGreatDoorWrdM
import Derived.Test.YtfaihaoajdcjbaaGreatDoorCliRd
import Derived.Deep.RegionHeld3
import Derived.Test.YtfaihaoajdcjbaaGreatDoorJ20
import Derived.Lib.SlBytesConst
set_option linter.all false
namespace Go.Proofs.YtfaihaoajdcjbaaGreatDoor
open Go.RowKit Go.Joins
abbrev Ce:ByteArray:=⟨#[72,69,76,76,79]⟩
abbrev Cd:ByteArray:=⟨#[51]⟩
def Dd (m:Md) (most:Int):CS:=((⟨⟨[],[],0,max most 0⟩,m,⟨#[]⟩,[],[],0,false,⟨#[]⟩,⟨#[]⟩⟩:CS).ask (-1) 0 [Ce,Cd]).ask (-1) 0 (A4 m)
theorem preW_len (l:List ByteArray):(l.flatMap preW).length<=2 * l.length:=by
 induction l with
 | nil=>simp
 | cons x l ih=>
   rw [List.flatMap_cons,List.length_append,List.length_cons];have:(preW x).length<=2:=by unfold preW;split<;>simp
   omega
theorem words_len (m:Md) (hg:m.good):(A4 m).length<=100/\∀t∈A4 m,t.size<=1000000:=by
 have hn32:m.prefixes.length<=32:=by
   cases hb:m.bcast with
   | false=>rw [hg.no hb];exact Nat.zero_le _
   | true=>exact (hg.pre hb).2.2
 have hp:∀p∈m.prefixes,p.size<=512:=fun p hp=>by
   cases hb:m.bcast with
   | false=>rw [hg.no hb] at hp;cases hp
   | true=>
     obtain ⟨i,hi,rfl⟩:=List.getElem_of_mem hp;exact ((hg.pre hb).1 i hi).1
 have hpl:=preW_len m.prefixes;have hit:=Ej m.redirect (by have:=hg.r0;omega) (by have:=hg.r1;omega);refine ⟨?_,fun t ht=>?_⟩
 · unfold A4 headM
   simp only [List.length_append];have h1:(if m.redirect=0 then ([]:List ByteArray) else [Ap,⟨(Lib.itoa m.redirect).toArray⟩]).length<=2:=by split<;>simp
   have h2:(if m.bcast=true then [C0] else []).length<=1:=by split<;>simp
   have h3:(if m.optin=true then [B7] else []).length<=1:=by split<;>simp
   have h4:(if m.optout=true then [B1] else []).length<=1:=by split<;>simp
   have h5:(if m.noloop=true then [Ct] else []).length<=1:=by split<;>simp
   have h6:[B2,Be,tOn].length=3:=rfl;omega
 · unfold A4 headM at ht
   simp only [List.mem_append,List.mem_cons,List.not_mem_nil,or_false,List.mem_flatMap] at ht;rcases ht with ((((((ht | ht | ht) | ht) | ht) | ⟨p,hpm,ht⟩) | ht) | ht) | ht
   · rw [ht];decide
   · rw [ht];decide
   · rw [ht];decide
   · split at ht
     · cases ht
     · rcases List.mem_cons.1 ht with e | e
       · rw [e];decide
       · rw [List.mem_singleton.1 e];omega
   · split at ht
     · rw [List.mem_singleton.1 ht];decide
     · cases ht
   · unfold preW at ht
     split at ht
     · cases ht
     · rcases List.mem_cons.1 ht with e | e
       · rw [e];decide
       · rw [List.mem_singleton.1 e];have:=hp p hpm;omega
   all_goals
     split at ht
     · rw [List.mem_singleton.1 ht];decide
     · cases ht
set_option maxRecDepth 100000 in
set_option maxHeartbeats 12800000 in
theorem cnew_any (m:Md) (hg:m.good) (most:Int) {w0:World} {pa:Option Addr} {n pc:Nat} (hx:Reads w0 1 (.slice pa n pc) n (m.prefixes.map Value.string)) (hN:Nums w0) :
   Calls Tryz.prog 9 #[.int .i64 most,C5 m (.slice pa n pc)] w0 fun e w' => ∃(cb:Nat) (ow:Nat->Nat),e=.returned (.tuple #[P0 cb,.int .i64 0])/\Cli ow w' cb (Dd m most)/\(∀k,k<w0.heap.size->ow k=0)/\Below w0.heap.size w0 w' := by
 obtain ⟨W1,hW1⟩:∃W1,W1=w0.alloc (.cells #[.bool m.on,.bool m.bcast,.bool m.optin,.bool m.optout,.bool m.noloop,.int .i64 m.redirect,.slice pa n pc] 24):=⟨_,rfl⟩;obtain ⟨B,hB⟩:∃B,B=w0.heap.size:=⟨_,rfl⟩;have hb1:Below w0.heap.size w0 W1:=by rw [hW1];exact (Below.refl _ _).alloc (Nat.le_refl _) _
 have hr1:W1.rangeAt B 0 [.bool m.on,.bool m.bcast,.bool m.optin,.bool m.optout,.bool m.noloop,.int .i64 m.redirect,.slice pa n pc]:=by
   rw [hW1,hB];intro q u hq;rw [Nat.zero_add,World.cell?_alloc_new];simpa using hq
 have hx1:=hx.below hb1;have hN1:=hN.below hb1;have hmr:=mright_any hg hx1;have k0:W1.cell? ⟨B,0,none⟩=some (.bool true):=by have:=hr1 0 _ rfl;rw [hg.on,Nat.zero_add] at this;exact this
 have k1:W1.cell? ⟨B,1,none⟩=some (.bool m.bcast):=by have:=hr1 1 _ rfl;rwa [Nat.zero_add] at this
 have k2:W1.cell? ⟨B,2,none⟩=some (.bool m.optin):=by have:=hr1 2 _ rfl;rwa [Nat.zero_add] at this
 have k3:W1.cell? ⟨B,3,none⟩=some (.bool m.optout):=by have:=hr1 3 _ rfl;rwa [Nat.zero_add] at this
 have k4:W1.cell? ⟨B,4,none⟩=some (.bool m.noloop):=by have:=hr1 4 _ rfl;rwa [Nat.zero_add] at this
 have k5:W1.cell? ⟨B,5,none⟩=some (.int .i64 m.redirect):=by have:=hr1 5 _ rfl;rwa [Nat.zero_add] at this
 have k6:W1.cell? ⟨B,6,none⟩=some (.slice pa n pc):=by have:=hr1 6 _ rfl;rwa [Nat.zero_add] at this
 rw [hg.on] at hmr;replace hmr:=Hd hmr;replace hW1:=Hd hW1;replace hB:=Hd hB;replace hr1:=Hd hr1;replace hx1:=Hd hx1;replace hN1:=Hd hN1;replace hb1:=Hd hb1;replace hN:=Hd hN;replace hx:=Hd hx;replace hg:=Hd hg
 go_enter Tryz.func9,Tryz.ntmps9
 go_upto_region 1 with fail
 rw [<-hW1.out,<-hB.out];go_wp2_with fail
 refine hmr.out.mono ?_;rintro e w2 ⟨rfl,hb2⟩;have hr2:w2.rangeAt B 0 [.bool true,.bool m.bcast,.bool m.optin,.bool m.optout,.bool m.noloop,.int .i64 m.redirect,.slice pa n pc]:=fun q u hq=>Aa hb2 _ _ (hr1.out q u (by rw [hg.out.on];exact hq));replace k0:=Aa hb2 _ _ k0;replace k1:=Aa hb2 _ _ k1;replace k2:=Aa hb2 _ _ k2;replace k3:=Aa hb2 _ _ k3;replace k4:=Aa hb2 _ _ k4;replace k5:=Aa hb2 _ _ k5;replace k6:=Aa hb2 _ _ k6;have hx2:=Hd (hx1.out.below hb2);have hN2:=Hd (hN1.out.below hb2);have hb02:=Hd (hb1.out.trans (hb2.mono hb1.out.size));have hBlt:B<w2.heap.size:=World.block_lt_of_cell? _ _ k0;clear hb2 hmr;replace hr2:=Hd hr2
 have hmc:∀wx,Below w2.heap.size w2 wx->Calls Tryz.prog 29 #[.agg #[.bool true,.bool m.bcast,.bool m.optin,.bool m.optout,.bool m.noloop,.int .i64 m.redirect,.slice pa n pc]] wx fun e w' => ∃(a' : Option Addr) (c' : Nat),e=.returned (.agg #[.bool true,.bool m.bcast,.bool m.optin,.bool m.optout,.bool m.noloop,.int .i64 m.redirect,.slice a' n c'])/\w'.ownsRow (wx.heap.size+2) 9 1 (.slice a' n c') n (m.prefixes.map Value.string)/\Below wx.heap.size wx w' := fun wx hb=>by
   have hn32:n<=100000:=by
     have hll:m.prefixes.length=n:=by have:=hx2.out.len.2;simpa using this
     cases hbc:m.bcast with
     | false=>rw [<-hll,hg.out.no hbc];exact Nat.zero_le _
     | true=>have:=(hg.out.pre hbc).2.2;omega
   have h:=mcopy_any m pa n pc wx (hx2.out.below hb) hn32;unfold C5 at h;rw [hg.out.on] at h;exact h
 replace hmc:=Hd hmc;go_upto_region 3 with fail
 go_region_held3 (fun w' => Below (w2).heap.size (w2) w' /\ ∀b o,b<(w2).heap.size->w'.cell? ⟨b,o,none⟩=(w2).cell? ⟨b,o,none⟩) (first | assumption | exact kp_drew | exact kp_keep2 (by assumption) (by assumption) | exact kp_keep (by assumption) (by assumption) | exact kp_alloc (by assumption) _) ((first
     | (go_at_call 28;refine (Av.near_new (av:=[]) most _ (by simp)).mono ?_;rintro e w3 ⟨nb,fp,rfl,hN3,hb3,hfp3⟩)
     | (go_at_call 29;refine (hmc.out _ (And.left (by assumption))).mono ?_;rintro e w4 ⟨a4,c4,rfl,hown4,hb4⟩)
     | (go_at_call 30;refine (F0 _).mono ?_;rintro e w5 ⟨rfl,hww⟩)))
 obtain ⟨a5,c5,hsh⟩:=(Reads.of_owns hown4).shape;have hll:m.prefixes.length=n:=by have:=hx2.out.len.2;simpa using this
 obtain ⟨W5,hW5⟩:∃W5,W5=((w4.alloc (.cells #[.slice none 0 0,.int .i64 0] 92)).alloc (.cells #[.slice none 0 0,.int .i64 0] 92)).alloc (.cells #[P0 nb,.bool m.on,.bool m.bcast,.bool m.optin,.bool m.optout,.bool m.noloop,.int .i64 m.redirect,.slice a4 n c4,P0 w4.heap.size,P0 (w4.heap.size+1),.slice none 0 0,.slice none 0 0,.slice none 0 0,.int .i64 0,.bool false] 68):=⟨_,rfl⟩;obtain ⟨o5,hc5,hz5,hb5⟩:=cli_made (w:=w2) (ns:=⟨[],[],0,max most 0⟩) (m:=m) 92 68 hN3 ((Below.drew (Below.refl _ w2)).trans hb3) hfp3 (by rw [hll];exact Reads.of_owns hown4) (fun b hb=>by have:=An hown4 b hb;omega) hb4 hN2.out hW5;rw [hg.out.on] at hW5;obtain ⟨cb,hcb⟩:∃cb,cb=w4.heap.size+1+1:=⟨_,rfl⟩;have hcb2:w4.heap.size+2=cb:=hcb.symm;rw [hcb2] at hc5;have hB0:o5 B=0:=hz5 B hBlt;have hz0:∀k,k<w0.heap.size->o5 k=0:=fun k hk=>hz5 k (Nat.lt_of_lt_of_le hk hb02.out.size)
 have hr5:W5.rangeAt B 0 [.bool true,.bool m.bcast,.bool m.optin,.bool m.optout,.bool m.noloop,.int .i64 m.redirect,.slice pa n pc]:=fun q u hq=>Aa hb5 _ _ (hr2.out q u hq);have hx5:=hx2.out.below hb5;obtain ⟨W6,hW6⟩:∃W6,W6=W5.alloc (.cells #[.string Ce,.string Cd] 9):=⟨_,rfl⟩;have hb6:Below W5.heap.size W5 W6:=by rw [hW6];exact (Below.refl _ _).alloc (Nat.le_refl _) _
 have hx6:Reads W6 1 (.slice (some ⟨W5.heap.size,0,none⟩) 2 2) 2 ([Ce,Cd].map Value.string):=⟨_,_,rfl,rfl,fun j u hj=>⟨_,0,rfl,by rw [hW6,Nat.zero_add,World.cell?_alloc_new];simpa using hj⟩⟩;obtain ⟨hc6,hw6⟩:=hc5.grow hb6;have hb05:=hb02.out.trans (hb5.mono hb02.out.size);have hzB:=fun k hk=>hz5 k hk;clear hN3 hb3 hfp3 hown4 hb4 hmc hsh hcb2 hz5 k0 k1 k2 k3 k4 k5 k6;rw [<-hcb];replace hcb:=Hd hcb;replace hc5:=Hd hc5;replace hc6:=Hd hc6;replace hw6:=Hd hw6;replace hx6:=Hd hx6;replace hr5:=Hd hr5;replace hx5:=Hd hx5;replace hzB:=Hd hzB;replace hb5:=Hd hb5;replace hb05:=Hd hb05;replace hW6:=Hd hW6;rw [<-hW5];replace hW5:=Hd hW5;replace hz0:=Hd hz0;replace hB0:=Hd hB0;go_wp2_with fail
 rw [<-hW6.out];refine (R2.ask_any (l:=[Ce,Cd]) (-1) 0 hc6.out hx6.out (by decide) (by decide) (Nat.zero_le _) (Nat.zero_le _)).mono ?_;rintro e w7 ⟨o7,rfl,hc7,hw7⟩;have hw57:=hw6.out.trans hw7;have hnB:¬(1<=o5 B/\o5 B<=8):=by rw [hB0.out];omega
 have hr7:w7.rangeAt B 0 [.bool true,.bool m.bcast,.bool m.optin,.bool m.optout,.bool m.noloop,.int .i64 m.redirect,.slice pa n pc]:=fun q u hq=>hw57.fr.cell (hr5.out q u hq) hnB;have k0:w7.cell? ⟨B,0,none⟩=some (.bool true):=by have:=hr7 0 _ rfl;rwa [Nat.zero_add] at this
 have k1:w7.cell? ⟨B,1,none⟩=some (.bool m.bcast):=by have:=hr7 1 _ rfl;rwa [Nat.zero_add] at this
 have k2:w7.cell? ⟨B,2,none⟩=some (.bool m.optin):=by have:=hr7 2 _ rfl;rwa [Nat.zero_add] at this
 have k3:w7.cell? ⟨B,3,none⟩=some (.bool m.optout):=by have:=hr7 3 _ rfl;rwa [Nat.zero_add] at this
 have k4:w7.cell? ⟨B,4,none⟩=some (.bool m.noloop):=by have:=hr7 4 _ rfl;rwa [Nat.zero_add] at this
 have k5:w7.cell? ⟨B,5,none⟩=some (.int .i64 m.redirect):=by have:=hr7 5 _ rfl;rwa [Nat.zero_add] at this
 have k6:w7.cell? ⟨B,6,none⟩=some (.slice pa n pc):=by have:=hr7 6 _ rfl;rwa [Nat.zero_add] at this
 have hb57:Below w2.heap.size W5 w7:=hw57.fr.below hb5.out.size (fun i hi e=>by rw [hzB.out i hi] at e;omega);have hb27:=hb5.out.trans hb57;have hx7:=hx2.out.below hb27;have hN7:=hN2.out.below hb27;have hwd:=R2.words_any m hg.out hx7 hN7;unfold C5 at hwd;rw [hg.out.on] at hwd;have hb07:=Hd (hb05.out.trans (hb57.mono hb02.out.size));have hlen:=Hd (words_len m hg.out);have hos:((⟨⟨[],[],0,max most 0⟩,m,⟨#[]⟩,[],[],0,false,⟨#[]⟩,⟨#[]⟩⟩:CS).ask (-1) 0 [Ce,Cd]).out.size<=1000000000:=by
   have h1:((⟨#[]⟩:ByteArray)++Ak [Ce,Cd]).size<=1000000000:=by decide +kernel
   exact h1
 clear hw7 hr7 hb57 hb27 hx7 hN7 hnB;replace hc7:=Hd hc7;replace hw57:=Hd hw57;replace hwd:=Hd hwd;replace hos:=Hd hos;go_wp2_with fail
 refine hwd.out.mono ?_;rintro e w8 ⟨a8,c8,rfl,hx8,hb8⟩;obtain ⟨hc8,hw8⟩:=hc7.out.grow hb8;have hw58:=Hd (hw57.out.trans hw8);have hb08:=Hd (hb07.out.trans (hb8.mono hb07.out.size));clear hb8 hw8 k0 k1 k2 k3 k4 k5 k6 hwd;replace hc8:=Hd hc8;replace hx8:=Hd hx8;go_wp2_with fail
 refine (R2.ask_any (l:=A4 m) (-1) 0 hc8.out hx8.out hlen.out.2 (by have:=hlen.out.1;omega) hos.out (by show (1:Nat)<=_;decide)).mono ?_;rintro e w9 ⟨o9,rfl,hc9,hw9⟩;have hw59:=hw58.out.trans hw9;have hb59:Below w0.heap.size W5 w9:=hw59.fr.below hb05.out.size (fun i hi e=>by rw [hz0.out i hi] at e;omega);have hb09:=Hd (hb05.out.trans hb59);have hz9:∀k,k<w0.heap.size->o9 k=0:=fun k hk=>by rw [hw59.same k (Nat.lt_of_lt_of_le hk hb05.out.size)];exact hz0.out k hk
 have hc9:Cli o9 w9 cb (Dd m most):=hc9;clear hw9 hw59 hb59;replace hc9:=Hd hc9;replace hz9:=Hd hz9;go_wp2_with fail
 go_ret2
 exact ⟨cb,o9,rfl,hc9.out,hz9.out,hb09.out⟩
theorem El {ow:Nat->Nat} {W:World} {cb n:Nat} {s t:CS} {b:ByteArray} {T:TypeId} {fr:Nat × Nat} {cells:Array Value} (h:Cli ow W cb s) (hc:cells=(Lib.strCells b).toArray) (hn:n=b.size) (ho:s.over=false) (hz:s.main.size+b.size<=1000000) (hf:Fed { s with main:=s.main++b } t) :
   Calls Tryz.prog 10 #[P0 cb,.slice (some ⟨W.heap.size,0,none⟩) n n] (W.alloc (.cells cells T fr)) fun e w' => e=.returned (.tuple #[])/\∃ow', Cli ow' w' cb t/\CW ow W ow' w' := by
 subst hn hc;have hb:Below W.heap.size W (W.alloc (.cells (Lib.strCells b).toArray T fr)):=(Below.refl _ _).alloc (Nat.le_refl _) _;obtain ⟨h1,h2⟩:=h.grow hb;exact (cfeed_any h1 (src_lit W b T fr) ho hz hf).mono fun e w' ⟨he,o,h3,h4⟩=>⟨he,o,h3,h2.trans h4⟩
theorem Bw {o o' : Nat->Nat} {w0 w w' : World} (hb:Below w0.heap.size w0 w) (hz:∀k,k<w0.heap.size->o k=0) (h:CW o w o' w'):Below w0.heap.size w0 w' /\ ∀k,k<w0.heap.size->o' k=0:=
 ⟨hb.trans (h.fr.below hb.size (fun i hi e=>by rw [hz i hi] at e;omega)),fun k hk=>by rw [h.same k (Nat.lt_of_lt_of_le hk hb.size)];exact hz k hk⟩
theorem told_all {cb:Nat} {s:CS} (hb:s.md.bcast=false) (k:ByteArray):∀W oo s', Cli oo W cb s' -> s'.md=s.md->Calls Tryz.prog 39 #[P0 cb,.string k] W fun e w' => e=.returned (.bool true)/\Below W.heap.size W w' := fun W oo s' hc hm=>by
 obtain ⟨p,rs,hC,_⟩:=hc.out;exact Fq hC (by rw [hm];exact hb) k
abbrev mOn:Md:=⟨true,false,false,false,false,0,[]⟩
theorem mOn_good:mOn.good:=⟨rfl,by decide,by decide,rfl,fun h=>(by cases h),fun _=>rfl,fun h=>(by cases h)⟩
abbrev tK:ByteArray:=⟨#[107]⟩
theorem reads_nil (w:World):Reads w 1 (.slice none 0 0) 0 (([]:List ByteArray).map Value.string):=⟨none,0,rfl,rfl,fun j u h=>by simp at h⟩
set_option maxRecDepth 100000 in
set_option maxHeartbeats 12800000 in
theorem alive24_any {w0:World} (hN:Nums w0):Calls Tryz.prog 7 #[] w0 fun e w' => e=.returned (.bool true)/\Below w0.heap.size w0 w' := by
 have kc:=fun (W:World) (C:Array Value) (n c:Nat)=>Lib.run_convert_bytes_const (P:=Tryz.prog) W 32 5 C n c Tryz.underlying32 Tryz.underlying5;have hnew:=Hd (cnew_any mOn mOn_good 10 (reads_nil w0) hN);replace hN:=Hd hN
 go_enter Tryz.func7,Tryz.ntmps7
 go_wp2_with fail
 refine hnew.out.mono ?_;rintro e w1 ⟨cb,o1,rfl,hc1,hz1,hb1⟩;obtain ⟨p1,rs1,hC1,_⟩:=hc1.out;obtain ⟨s1,hs1⟩:∃s1,s1=Dd mOn 10:=⟨_,rfl⟩;rw [<-hs1] at hc1 hC1;replace hc1:=Hd hc1;replace hz1:=Hd hz1;replace hb1:=Hd hb1;replace hC1:=Hd hC1;replace hs1:=Hd hs1;clear hnew;go_wp2_with fail
 refine (cnear_any hC1.out).mono ?_;rintro e w' ⟨rfl,hww⟩;obtain rfl:=hww.symm;clear hww hC1;go_wp2_with fail
 have e1:s1.over=false/\s1.md.optin=false/\s1.last=0/\A1 s1.near.es tK=none/\s1.near.last=0/\s1.out.size<=1000000000/\s1.asked.length<=1000000/\s1.md.bcast=false:=by
   rw [hs1.out];refine ⟨rfl,rfl,rfl,rfl,rfl,?_,by decide,rfl⟩;have h1:((⟨#[]⟩:ByteArray)++Ak [Ce,Cd]++Ak (A4 mOn)).size<=1000000000:=by decide +kernel
   exact h1
 refine (R2.cread_none true hc1.out e1.1 e1.2.1 (by rw [e1.2.2.1];decide) e1.2.2.2.1 (by decide) (by rw [e1.2.2.2.2.1];decide) (by rw [e1.2.2.2.2.1];decide) e1.2.2.2.2.2.1 e1.2.2.2.2.2.2.1 (told_all e1.2.2.2.2.2.2.2 tK)).mono ?_;rintro e w2 ⟨rfl,o2,hc2,hw2⟩;have hl2:((s1.last+1:Nat):Int)=1:=by rw [e1.2.2.1];rfl
 rw [hl2];obtain ⟨hb2,hz2⟩:=Bw hb1.out hz1.out hw2;clear hw2 hb1 hz1 hc1 hl2 e1;replace hc2:=Hd hc2;replace hb2:=Hd hb2;replace hz2:=Hd hz2;go_wp2_with fail
 have hf:Fed { s1.readN tK true with main:=(s1.readN tK true).main++tHv } ⟨((s1.readN tK true).near).fillIf 1 vV,mOn,(s1.readN tK true).out,[],[(1,vV,false)],1,false,⟨#[]⟩,⟨#[]⟩⟩:=by
   have h:=fed_hv (near:=(s1.readN tK true).near) (md:=mOn) (out:=(s1.readN tK true).out) (side:=⟨#[]⟩) (l:=[]) (results:=[]) (last:=1) (tk:=1) (ti:=1) (by decide) (by decide);have e:(s1.readN tK true).main++tHv=tHv:=by rw [hs1.out];exact Fm _
   rw [e];rw [hs1.out] at h ⊢;exact h
 refine (El (b:=tHv) hc2.out (by rfl) (by rfl) (by rw [hs1.out];rfl) (by rw [hs1.out];decide) hf).mono ?_;rintro e w3 ⟨rfl,o3,hc3,hw3⟩;obtain ⟨hb3,hz3⟩:=Bw hb2.out hz2.out hw3;obtain ⟨s3,hs3⟩:∃s3,s3=(⟨((s1.readN tK true).near).fillIf 1 vV,mOn,(s1.readN tK true).out,[],[(1,vV,false)],1,false,⟨#[]⟩,⟨#[]⟩⟩:CS):=⟨_,rfl⟩;rw [<-hs3] at hc3;clear hw3 hb2 hz2 hc2 hf;replace hc3:=Hd hc3;replace hb3:=Hd hb3;replace hz3:=Hd hz3;replace hs3:=Hd hs3;go_wp2_with fail
 have hk3:A1 s3.near.es tK=some vV:=by
   rw [hs3.out,hs1.out]
   kernel_rfl
 refine (R2.cread_near hc3.out (by rw [hs3.out]) (by rw [hs3.out];show (1:Nat)<=_;decide) (by rw [hs3.out];show (1:Nat)<=_;decide) hk3).mono ?_;rintro e w4 ⟨rfl,o4,hc4,hw4⟩;have hl4:((s3.last+1:Nat):Int)=2:=by rw [hs3.out];rfl
 rw [hl4];obtain ⟨hb4,hz4⟩:=Bw hb3.out hz3.out hw4;clear hw4 hb3 hz3 hc3 hl4 hk3;replace hc4:=Hd hc4;replace hb4:=Hd hb4;replace hz4:=Hd hz4;go_wp2_with fail
 refine (cres_any hc4.out).mono ?_;rintro e w5 ⟨v5,rs5,o5,rfl,hrl5,hbk5,hc5,hw5⟩;obtain ⟨hb5,hz5⟩:=Bw hb4.out hz4.out hw5;have hre:(s3.readY tK vV).results=[(1,vV,false),(2,vV,true)]:=by rw [hs3.out];rfl
 rw [hre] at hrl5 hbk5;have has5:({ s3.readY tK vV with results:=[] }:CS).asked.length=0:=by rw [hs3.out];rfl
 have hask:=Gb hc5;rw [has5] at hask;obtain ⟨r1,r2,hr12⟩:∃r1 r2,rs5=[r1,r2]:=by
   rcases rs5 with _ | ⟨r1,_ | ⟨r2,_ | ⟨r3,l⟩⟩⟩
   · cases hrl5
   · cases hrl5
   · exact ⟨r1,r2,rfl⟩
   · simp at hrl5
 subst hr12;obtain ⟨b5,oo5,c5,rfl,hlt5,hcell5⟩:=hbk5.cells (by decide);have q0:=hcell5 0 (.int .i64 1) rfl;rw [Nat.add_zero] at q0;have q2:=hcell5 2 (.string ⟨#[118]⟩) rfl;have q7:=hcell5 7 (.bool false) rfl;have q8:=hcell5 8 (.int .i64 2) rfl;have q10:=hcell5 10 (.string ⟨#[118]⟩) rfl;have q15:=hcell5 15 (.bool true) rfl;have hcl5:[((1:Int),vV,false),(2,vV,true)].length=2:=rfl;rw [hcl5];clear hw5 hb4 hz4 hc4 hbk5 hcell5 hrl5 hre has5 hcl5;replace hask:=Hd hask;replace hb5:=Hd hb5;go_wp2_with fail
 refine hask.out.mono ?_;rintro e w' ⟨rfl,hww⟩;obtain rfl:=hww.symm;clear hww;go_wp2_with fail
 go_ret;exact ⟨rfl,hb5.out⟩
end Go.Proofs.YtfaihaoajdcjbaaGreatDoor
