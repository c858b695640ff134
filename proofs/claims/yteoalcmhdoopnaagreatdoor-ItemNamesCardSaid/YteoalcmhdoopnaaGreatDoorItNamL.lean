/- ItemNames: its walk. -/
import Derived.Test.YteoalcmhdoopnaaGreatDoorItReal
import Derived.Test.YteoalcmhdoopnaaGreatDoorItAddX
import Derived.Test.YteoalcmhdoopnaaGreatDoorItApp
import Derived.Test.YteoalcmhdoopnaaGreatDoorItPut
import Derived.Test.YteoalcmhdoopnaaGreatDoorItAlive
import Derived.Test.YteoalcmhdoopnaaGreatDoorRNamL
import Derived.Laws.MakeOwn
namespace Go.Proofs.YteoalcmhdoopnaaGreatDoor
open Go.RowKit
theorem inf_wP:wP (⟨#[120]⟩:ByteArray).data.toList=none:=by
 cases h:wP (⟨#[120]⟩:ByteArray).data.toList with
 | none=>rfl
 | some v=>
   exfalso;obtain ⟨_,h2⟩:=wP_iff.1 h;have h3:(120:UInt8)∈Lib.itoa v:=by rw [h2];exact List.mem_cons_self ..
   unfold Lib.itoa at h3;split at h3
   · rcases List.mem_cons.1 h3 with h4 | h4
     · exact absurd h4 (by decide)
     · have:=dec_isD _ _ h4
       exact absurd this (by decide)
   · have:=dec_isD _ _ h3
     exact absurd this (by decide)
def nulls:ByteArray:=⟨(List.replicate 4097 (0:UInt8)).toArray⟩
theorem nulls_size:nulls.size=4097:=by show (List.replicate 4097 (0:UInt8)).toArray.size=4097;rw [List.size_toArray,List.length_replicate]
theorem byteInfo:(Tryz.prog.info? 5).map (fun i=>(i.size,i.bytes,i.zero))=some (1,1,some (.int .u8 0)):=by kernel_rfl
theorem makeNulls (w:World):∃Z:Array Value,(∀i,i<4097->Z[i]?=some (.int .u8 0))/\(Instr.makeSlice 50 (.int .i64 4097) (.int .i64 4097)).run Tryz.prog w=.ok (.slice (some ⟨w.heap.size,0,none⟩) 4097 4097) (w.alloc (.cells Z 5)):=by
 have hI:=byteInfo;rw [Option.map_eq_some_iff] at hI;obtain ⟨i,hi,he⟩:=hI;simp only [Prod.mk.injEq] at he;obtain ⟨e1,e2,e3⟩:=he;have h:=run_makeSlice (P:=Tryz.prog) (w:=w) 50 5 i (.int .u8 0) Tryz.underlying50 hi e3 .i64 .i64 4097 4097 (by decide) (by decide) (by rw [e1];decide) (by rw [e2];decide) (by decide);rw [e1] at h;refine ⟨madeCells #[.int .u8 0] 4097,fun i hi=>?_,h⟩;rw [<-Array.getElem?_toList,toList_madeCells_one,List.getElem?_replicate,if_pos hi]
set_option maxRecDepth 100000 in
set_option maxHeartbeats 6400000 in
theorem Bn (w:World) (hN:Nums w):Calls Tryz.prog 5 #[] w fun e w' => e=.returned (.bool true)/\Below w.heap.size w w' := by
 have hput:=iput_in 0 ⟨#[]⟩ none 0 0 [] ⟨#[102]⟩ ⟨#[118]⟩ w (by decide) (Reads.nil _ _ _ _) (by exact List.Pairwise.nil) (by decide) ⟨by decide,by decide⟩ (Or.inr (by decide));rw [show hasF [] ⟨#[102]⟩=false from rfl,show putF [] ⟨#[102]⟩ ⟨#[118]⟩=[((⟨#[102]⟩:ByteArray),(⟨#[118]⟩:ByteArray))] from rfl,show (!false)=true from rfl] at hput;obtain ⟨PF,hPF⟩:∃PF:List Fld,PF=[((⟨#[102]⟩:ByteArray),(⟨#[118]⟩:ByteArray))]:=⟨_,rfl⟩;rw [<-hPF] at hput;replace hput:=Hd hput;replace hPF:=Hd hPF;replace hN:=Hd hN
 go_enter Tryz.func5,Tryz.ntmps5
 go_wp2_with fail
 refine hput.out.mono ?_;rintro e w1 ⟨a1,n1,c1,rfl,hown,hb1⟩;have hr1:=RF.of_owns hown;have hn1:n1<=100000:=by have:=hr1.len;rw [hPF.out] at this;simp at this;omega
 clear hown;obtain ⟨W1,hW1⟩:∃W,W=w1.alloc (.cells #[.int .i64 2,.string ⟨#[]⟩,.slice a1 n1 c1] 24):=⟨_,rfl⟩;have hbW1:Below w.heap.size w W1:=by rw [hW1];exact hb1.alloc hb1.size _
 have q0:W1.cell? ⟨w1.heap.size,0,none⟩=some (.int .i64 2):=by rw [hW1,World.cell?_alloc_new];rfl
 have q1:W1.cell? ⟨w1.heap.size,1,none⟩=some (.string ⟨#[]⟩):=by rw [hW1,World.cell?_alloc_new];rfl
 have q2:W1.cell? ⟨w1.heap.size,2,none⟩=some (.slice a1 n1 c1):=by rw [hW1,World.cell?_alloc_new];rfl
 have hrW1:RF W1 a1 n1 c1 PF:=hr1.below (by rw [hW1];exact (Below.refl _ _).alloc (Nat.le_refl _) _);clear hr1 hb1;have hadd:=iadd_hashE ⟨#[]⟩ a1 n1 c1 PF 1 W1 hrW1 hn1;replace hadd:=Hd hadd;replace hW1:=Hd hW1;replace hrW1:=Hd hrW1;replace hbW1:=Hd hbW1;go_upto_region 2 with fail
 rw [<-hW1.out];go_wp2_with fail
 refine hadd.out.mono ?_;rintro e w2 ⟨k2,t2,a2,n2,c2,rfl,hb2⟩;obtain ⟨W2,hW2⟩:∃W,W=w2.alloc (.cells #[.int .i64 k2,.string t2,.slice a2 n2 c2] 24):=⟨_,rfl⟩;have hb12:Below W1.heap.size W1 W2:=by rw [hW2];exact hb2.alloc hb2.size _
 have hbW2:=hbW1.out.trans (hb12.mono hbW1.out.size);replace q0:=Aa hb12 q0;replace q1:=Aa hb12 q1;replace q2:=Aa hb12 q2;replace hrW1:=hrW1.out.below hb12;have hnone:=iadd_noneE ⟨#[120]⟩ none 0 0 1 W2 inf_wP (by decide) (hN.out.below hbW2);replace hnone:=Hd hnone;replace hW2:=Hd hW2;replace hrW1:=Hd hrW1;replace hbW2:=Hd hbW2;clear hb2 hb12;go_upto_region 3 with fail
 rw [<-hW2.out];go_wp2_with fail
 refine hnone.out.mono ?_;rintro e w3 ⟨k3,t3,a3,n3,c3,rfl,hb3⟩;obtain ⟨W3,hW3⟩:∃W,W=w3.alloc (.cells #[.int .i64 k3,.string t3,.slice a3 n3 c3] 24):=⟨_,rfl⟩;have hb23:Below W2.heap.size W2 W3:=by rw [hW3];exact hb3.alloc hb3.size _
 have hbW3:=hbW2.out.trans (hb23.mono hbW2.out.size);replace q0:=Aa hb23 q0;replace q1:=Aa hb23 q1;replace q2:=Aa hb23 q2;replace hrW1:=hrW1.out.below hb23;have hwild:=areal_wild ⟨#[105,110,102]⟩ none 0 0 9218868437227405312 4607182418800017408 W3 (by decide) (by decide) (fun W _=>(parse_inf W).mono fun e w' ⟨h1,h2⟩=>⟨h1,by rw [h2];exact Below.refl _ _⟩);replace hwild:=Hd hwild;replace hW3:=Hd hW3;replace hrW1:=Hd hrW1;replace hbW3:=Hd hbW3;clear hb3 hb23;go_upto_region 4 with fail
 rw [<-hW3.out];go_wp2_with fail
 refine hwild.out.mono ?_;rintro e w4 ⟨rfl,hb4⟩;obtain ⟨W4,hW4⟩:∃W,W=w4.alloc (.cells #[.int .i64 1,.string ⟨#[105,110,102]⟩,.slice none 0 0] 24):=⟨_,rfl⟩;have hb34:Below W3.heap.size W3 W4:=by rw [hW4];exact hb4.alloc hb4.size _
 have hbW4:=hbW3.out.trans (hb34.mono hbW3.out.size);replace q0:=Aa hb34 q0;replace q1:=Aa hb34 q1;replace q2:=Aa hb34 q2;replace hrW1:=hrW1.out.below hb34;obtain ⟨Z,hZ,hmk⟩:=makeNulls W4;obtain ⟨W5,hW5⟩:∃W,W=W4.alloc (.cells Z 5):=⟨_,rfl⟩;rw [<-hW5] at hmk;have hb45:Below W4.heap.size W4 W5:=by rw [hW5];exact (Below.refl _ _).alloc (Nat.le_refl _) _
 have hcv:=run_convert_bytes_back (P:=Tryz.prog) W5 50 9 5 ⟨W4.heap.size,0,none⟩ 4097 (List.replicate 4097 (0:UInt8)) Tryz.underlying50 Tryz.underlying5 Tryz.underlying9 (fun q hq=>by
   rw [List.length_replicate] at hq;rw [add_at,Nat.zero_add,hW5,World.cell?_alloc_new,hZ q hq,List.getElem_replicate];rfl)
 rw [List.length_replicate] at hcv;obtain ⟨nl,hnl⟩:∃nl:ByteArray,nl=⟨(List.replicate 4097 (0:UInt8)).toArray⟩:=⟨_,rfl⟩;rw [<-hnl] at hcv;have hnz:nl.size=4097:=by rw [hnl];exact nulls_size
 have hbig:=iappend_big 0 (by decide) ⟨#[]⟩ none 0 0 nl W5 (by decide) (by rw [hnz];decide);have hbW5:=hbW4.trans (hb45.mono hbW4.size);replace q0:=Aa hb45 q0;replace q1:=Aa hb45 q1;replace q2:=Aa hb45 q2;replace hrW1:=hrW1.below hb45;replace hbig:=Hd hbig;replace hnl:=Hd hnl;replace hnz:=Hd hnz;replace hW4:=Hd hW4;replace hW5:=Hd hW5;replace hrW1:=Hd hrW1;replace hbW5:=Hd hbW5;clear hb4 hb34 hb45 hbW4 hZ;go_upto_region 5 with fail
 rw [<-hW4.out];go_wp2_with fail
 refine hbig.out.mono ?_;rintro e w6 ⟨rfl,hb6⟩;obtain ⟨W6,hW6⟩:∃W,W=w6.alloc (.cells #[.int .i64 0,.string ⟨#[]⟩,.slice none 0 0] 24):=⟨_,rfl⟩;have hb56:Below W5.heap.size W5 W6:=by rw [hW6];exact hb6.alloc hb6.size _
 have hbW6:=hbW5.out.trans (hb56.mono hbW5.out.size);replace q0:=Aa hb56 q0;replace q1:=Aa hb56 q1;replace q2:=Aa hb56 q2;replace hrW1:=hrW1.out.below hb56;have hal:=alive09_any W6 (hN.out.below hbW6);replace hal:=Hd hal;replace hW6:=Hd hW6;replace hrW1:=Hd hrW1;replace hbW6:=Hd hbW6;clear hb6 hb56;go_upto_region 6 with fail
 rw [<-hW6.out];go_wp2_with fail
 refine hal.out.mono ?_;rintro e w7 ⟨rfl,hb7⟩;have hbW7:=hbW6.out.trans (hb7.mono hbW6.out.size);replace q0:=Aa hb7 q0;replace q1:=Aa hb7 q1;replace q2:=Aa hb7 q2;have hcost:=cost_any ⟨#[107]⟩ 2 ⟨#[]⟩ a1 n1 c1 PF w7 (hrW1.out.below hb7) hn1 (by decide) (by decide) (by rw [hPF.out];intro f hf;rw [List.mem_singleton] at hf;subst hf;exact ⟨by decide,by decide⟩) (hN.out.below hbW7);rw [show Az ⟨#[107]⟩ 2 ⟨#[]⟩ PF=67 by rw [hPF.out];rfl] at hcost;replace hcost:=Hd hcost;replace hbW7:=Hd hbW7;clear hb7;go_wp2_with fail
 refine hcost.out.mono ?_;rintro e w8 ⟨rfl,hb8⟩;have hfin:=hbW7.out.trans (hb8.mono hbW7.out.size);clear hb8;go_wp2;go_ret;exact ⟨rfl,hfin⟩
end Go.Proofs.YteoalcmhdoopnaaGreatDoor
