/- The statements on the reader: a Reader of the law's own; the chapter's example. -/
import Derived.Test.YtagkgfniihiinaaGreatDoorJ64
import Derived.Lib.SlBytesConst
set_option linter.all false
namespace Go.Proofs.YtagkgfniihiinaaGreatDoor
open Go.RowKit
theorem cell_fr (W:World) (C:Array Value) (T:TypeId) (fr:Nat × Nat) (j:Nat):(W.alloc (.cells C T fr)).cell? ⟨W.heap.size,j,none⟩=C[j]?:=by
 have h:(W.alloc (.cells C T fr)).heap[W.heap.size]?=some (.cells C T fr):=by
   show (W.heap.push _)[W.heap.size]?=_;simp
 unfold World.cell?
 rw [h];rfl
theorem src_lit (W:World) (t:ByteArray) (T:TypeId) (fr:Nat × Nat):Src Tryz.prog 1 27 (.slice (some ⟨W.heap.size,0,none⟩) t.size t.size) t.size (Lib.strCells t) (W.alloc (.cells (Lib.strCells t).toArray T fr)):=
 Src.ofSlice _ Tryz.underlying27 ⟨W.heap.size,0,none⟩ t.size t.size _ (by rw [Lib.strCells_length,Nat.mul_one]) (fun j u hj=>by rw [add_zr,Nat.zero_add,cell_fr];simpa using hj) (Lib.strCells_oneCell t)
theorem feed_lit {B r n:Nat} {W:World} {v:Value} {s t:ByteArray} {T:TypeId} {fr:Nat × Nat} {cells:Array Value} (h:Rdr B W r v s 0) (hc:cells=(Lib.strCells t).toArray) (hn:n=t.size) (hz:s.size+t.size<=1000000000) :
   Calls Tryz.prog 26 #[.pointer (some ⟨r,0,none⟩),.slice (some ⟨W.heap.size,0,none⟩) n n] (W.alloc (.cells cells T fr)) fun e w' => ∃v', e=.returned (.tuple #[])/\Rdr B w' r v' (s++t) 0/\Fr (fun k=>k=r\/B<=k) W w' := by
 subst hc hn
 have hb:Below W.heap.size W (W.alloc (.cells (Lib.strCells t).toArray T fr)):=(Below.refl _ _).alloc (Nat.le_refl _) _
 refine (feed_ok (h.below hb) (src_lit W t T fr) hz).mono ?_
 rintro e w' ⟨v', rfl,hr,hf⟩
 exact ⟨v', rfl,hr,((Fr.of_below hb).mono (T:=fun k=>k=r\/B<=k) (fun i hi h=>absurd hi (Nat.not_lt_of_le h))).trans hf⟩
theorem rdr_new (W:World):Rdr (W.heap.size+1) (W.alloc (.cells #[.slice none 0 0,.int .i64 0] 74)) W.heap.size (.slice none 0 0) ⟨#[]⟩ 0:=
 ⟨by rw [World.cell?_alloc_new];rfl,by rw [World.cell?_alloc_new];rfl,Blk.new _ _ _,Buf.nil _ _,by omega,by simp⟩
theorem nil_left (s:ByteArray):(⟨#[]⟩:ByteArray)++s=s:=by apply ByteArray.ext;simp [ByteArray.data_append]
set_option maxRecDepth 100000 in
set_option maxHeartbeats 3200000 in
theorem alive05_any {w:World} (hN:Nums w):Calls Tryz.prog 23 #[] w fun e w' => e=.returned (.bool true)/\Below w.heap.size w w' := by
 obtain ⟨W1,hW1⟩:∃W1,W1=w.alloc (.cells #[.slice none 0 0,.int .i64 0] 74):=⟨_,rfl⟩;have hb1:Below w.heap.size w W1:=by rw [hW1];exact (Below.refl _ _).alloc (Nat.le_refl _) _
 have hR:=rdr_new w;rw [<-hW1] at hR;obtain ⟨r,hr⟩:∃r,r=w.heap.size:=⟨_,rfl⟩;rw [<-hr] at hR;replace hN:=Hd hN;replace hW1:=Hd hW1;replace hR:=Hd hR;replace hb1:=Hd hb1;have kc:=fun (W:World) (C:Array Value) (n c:Nat)=>Lib.run_convert_bytes_const (P:=Tryz.prog) W 27 5 C n c Tryz.underlying27 Tryz.underlying5
 go_enter Tryz.func23,Tryz.ntmps23
 go_wp2_with fail
 refine (rnew_any w).mono ?_;rintro e w' ⟨rfl,hww⟩;rw [<-hW1.out] at hww;obtain rfl:=hww.symm;clear hww;rw [<-hr];replace hr:=Hd hr;go_wp2_with fail
 refine (feed_lit (t:=t1) hR.out (by rfl) (by rfl) (by decide)).mono ?_;rintro e w2 ⟨v2,rfl,hR2,hf⟩;have hb2:=hb1.out.trans (hf.below hb1.out.size (fun i hi h=>by have:=hr.out;rcases h with h | h<;>omega))
 have hN2:=hN.out.below hb2;rw [nil_left] at hR2;clear hf hR hb1;replace hb2:=Hd hb2;replace hN2:=Hd hN2;replace hR2:=Hd hR2;go_wp2_with fail
 refine (next_stop0 (rp:=rp0) hR2.out (by decide) (env0 hN2.out) sc1.2 sc1.1).mono ?_;intro e w3 he;obtain ⟨he,⟨v3,hR3⟩,hf⟩:=he;have he:e=.returned (.tuple #[.agg #[.int .i64 0,.string ⟨#[]⟩,.int .i64 0,.float .f64 0,.bool false,.slice none 0 0],.bool false,.int .i64 0]):=he;subst he;have hb3:=hb2.out.trans (hf.below hb2.out.size (fun i hi h=>by have:=hr.out;omega));have hN3:=hN.out.below hb3;clear hf hR2 hb2 hN2;replace hb3:=Hd hb3;replace hN3:=Hd hN3;replace hR3:=Hd hR3;go_upto_region 6 with fail
 obtain ⟨w4,hw4⟩:∃w4,w4=w3.alloc (.cells #[.int .i64 0,.string ⟨#[]⟩,.int .i64 0,.float .f64 0,.bool false,.slice none 0 0] 26):=⟨_,rfl⟩;rw [<-hw4];have hb34:Below w3.heap.size w3 w4:=by rw [hw4];exact (Below.refl _ _).alloc (Nat.le_refl _) _
 have hb4:=hb3.out.trans (hb34.mono hb3.out.size);have hR4:=hR3.out.below hb34;clear hb34 hb3 hN3 hR3;replace hw4:=Hd hw4;replace hb4:=Hd hb4;replace hR4:=Hd hR4;go_wp2_with fail
 refine (feed_lit (t:=t2) hR4.out (by rfl) (by rfl) (by decide)).mono ?_;rintro e w5 ⟨v5,rfl,hR5,hf⟩;have hb5:=hb4.out.trans (hf.below hb4.out.size (fun i hi h=>by have:=hr.out;rcases h with h | h<;>omega))
 have hN5:=hN.out.below hb5;clear hf hR4 hb4;replace hb5:=Hd hb5;replace hN5:=Hd hN5;replace hR5:=Hd hR5;have hz12:(t1++t2).size=8:=by rw [ByteArray.size_append];rfl
 replace hz12:=Hd hz12;go_wp2_with fail
 refine (next_got (rp:=rp0) (u:=8) (m:=1) (x:=Ao 4 ⟨#[97,98]⟩ 0 0 false) hR5.out (by rw [hz12.out];decide) (by decide) (by rw [hz12.out];decide) (env0 hN5.out) sc12.2 sc12.1).mono ?_;intro e w6 he;obtain ⟨ad,ca,he,_,⟨v6,hR6⟩,hf⟩:=he;have he:e=.returned (.tuple #[.agg #[.int .i64 4,.string ⟨#[97,98]⟩,.int .i64 0,.float .f64 0,.bool false,.slice ad 0 ca],.bool true,.int .i64 0]):=he;subst he;have hb6:=hb5.out.trans (hf.below hb5.out.size (fun i hi h=>by have:=hr.out;omega));have hv:=Bp w6 26 [.int .i64 4,.string ⟨#[97,98]⟩,.int .i64 0,.float .f64 0,.bool false,.slice ad 0 ca] rfl;have hth:=A2 w6 26;clear hf hR5 hb5 hN5;replace hb6:=Hd hb6;replace hR6:=Hd hR6;replace hv:=Hd hv;replace hth:=Hd hth;have tok1:True:=trivial;go_upto_region 8 with (have _t:=tok1;refine wpList_store_mid rfl 26 _ _ rfl w6.heap.size 0 _ rfl rfl hth.out Ab (one6 _ _ _ _ _ _ _ _) ?_;clear tok1 _t)
 generalize (w6.alloc (.cells #[Value.int .i64 0,.string ⟨#[]⟩,.int .i64 0,.float .f64 0,.bool false,.slice none 0 0] 26)).setCells w6.heap.size 0 [Value.int .i64 4,.string ⟨#[97,98]⟩,.int .i64 0,.float .f64 0,.bool false,.slice ad 0 ca]=w7 at hv ⊢;obtain ⟨hb67,rv,kv⟩:=hv.out;have hb7:=hb6.out.trans (hb67.mono hb6.out.size);have hR7:=hR6.out.below hb67;obtain ⟨a7,c7,rfl,_⟩:=hR7.buf.shape;have hz:((t1++t2).extract 8 (t1++t2).size).size=0:=by rw [ByteArray.size_extract,hz12.out];decide
 rw [hz] at hR7;have d0:=rv 0 _ rfl;have d1:=rv 1 _ rfl;simp only [Nat.zero_add] at d0 d1;have hL:=left_any hR7.c0;clear hv hth hR6 hb6 hb67 rv kv hz;replace hb7:=Hd hb7;replace hL:=Hd hL;replace hR7:=Hd hR7;go_wp2_with fail
 refine (hL.out).mono ?_;rintro e w' ⟨rfl,hww⟩;obtain rfl:=hww.symm;go_wp2_with fail
 go_ret;exact ⟨rfl,hb7.out⟩
end Go.Proofs.YtagkgfniihiinaaGreatDoor
