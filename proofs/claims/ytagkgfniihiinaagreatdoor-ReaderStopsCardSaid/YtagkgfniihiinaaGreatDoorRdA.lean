/- The statements on the reader. -/
import Derived.Test.YtagkgfniihiinaaGreatDoorJ73
set_option linter.all false
namespace Go.Proofs.YtagkgfniihiinaaGreatDoor
open Go.RowKit
theorem cell_fr (W:World) (C:Array Value) (T:TypeId) (fr:Nat × Nat) (j:Nat):(W.alloc (.cells C T fr)).cell? ⟨W.heap.size,j,none⟩=C[j]?:=by
 have h:(W.alloc (.cells C T fr)).heap[W.heap.size]?=some (.cells C T fr):=by
  show (W.heap.push _)[W.heap.size]?=_;simp
 unfold World.cell?
 rw [h];rfl
theorem src_lit (W:World) (t:ByteArray) (T:TypeId) (fr:Nat × Nat):Src Tryz.prog 1 27 (.slice (some ⟨W.heap.size,0,none⟩) t.size t.size) t.size (Lib.strCells t) (W.alloc (.cells (Lib.strCells t).toArray T fr)):=
 Src.ofSlice _ Tryz.underlying27 ⟨W.heap.size,0,none⟩ t.size t.size _ (by rw [Lib.strCells_length,Nat.mul_one]) (fun j u hj=>by rw [add_zr,Nat.zero_add,cell_fr];simpa using hj) (Lib.strCells_oneCell t)
theorem feed_lit {B r n:Nat} {W:World} {v:Value} {s t:ByteArray} {T:TypeId} {fr:Nat × Nat} {cells:Array Value} (h:Rdr B W r v s 0) (hc:cells=(Lib.strCells t).toArray) (hn:n=t.size) (hz:s.size+t.size<=1000000000) :
  Calls Tryz.prog 26 #[.pointer (some ⟨r,0,none⟩),.slice (some ⟨W.heap.size,0,none⟩) n n] (W.alloc (.cells cells T fr)) fun e w' => ∃v', e=.returned (.tuple #[])/\Rdr B w' r v' (s++t) 0/\Fr (fun k=>k=r\/B<=k) W w' := by
 subst hc hn;have hb:Below W.heap.size W (W.alloc (.cells (Lib.strCells t).toArray T fr)):=(Below.refl _ _).alloc (Nat.le_refl _) _;refine (feed_ok (h.below hb) (src_lit W t T fr) hz).mono ?_;rintro e w' ⟨v', rfl,hr,hf⟩;exact ⟨v', rfl,hr,((Fr.of_below hb).mono (T:=fun k=>k=r\/B<=k) (fun i hi h=>absurd hi (Nat.not_lt_of_le h))).trans hf⟩
theorem left_any {w:World} {r:Nat} {ad:Option Addr} {n c:Nat} (h:w.cell? ⟨r,0,none⟩=some (.slice ad n c)):Calls Tryz.prog 28 #[.pointer (some ⟨r,0,none⟩)] w fun e w' => e=.returned (.int .i64 (n:Int))/\w' = w:=by
 go_enter Tryz.func28,Tryz.ntmps28
 go_wp2;go_ret;exact ⟨rfl,rfl⟩
theorem rdr_new (W:World):Rdr (W.heap.size+1) (W.alloc (.cells #[.slice none 0 0,.int .i64 0] 74)) W.heap.size (.slice none 0 0) ⟨#[]⟩ 0:=
 ⟨by rw [World.cell?_alloc_new];rfl,by rw [World.cell?_alloc_new];rfl,Blk.new _ _ _,Buf.nil _ _,by omega,by simp⟩
theorem nil_left (s:ByteArray):(⟨#[]⟩:ByteArray)++s=s:=by apply ByteArray.ext;simp [ByteArray.data_append]
set_option maxRecDepth 100000 in
set_option maxHeartbeats 3200000 in
theorem alive05_any {w:World} (hN:Nums w):Calls Tryz.prog 23 #[] w fun e w' => e=.returned (.bool true)/\Below w.heap.size w w' := by
 obtain ⟨W1,hW1⟩:∃W1,W1=w.alloc (.cells #[.slice none 0 0,.int .i64 0] 74):=⟨_,rfl⟩;have g:Below w.heap.size w W1:=by rw [hW1];exact (Below.refl _ _).alloc (Nat.le_refl _) _
 have hR:=rdr_new w;rw [<-hW1] at hR;obtain ⟨r,hr⟩:∃r,r=w.heap.size:=⟨_,rfl⟩;rw [<-hr] at hR;replace hN:=Hd hN;replace hW1:=Hd hW1;replace hR:=Hd hR;replace g:=Hd g;have kc:=fun (W:World) (C:Array Value) (n c:Nat)=>Lib.run_convert_bytes_const (P:=Tryz.prog) W 27 5 C n c Tryz.underlying27 Tryz.underlying5
 go_enter Tryz.func23,Tryz.ntmps23
 go_wp2_with fail
 refine (rnew_any w).mono ?_;rintro e w' ⟨rfl,l⟩;rw [<-hW1.out] at l;obtain rfl:=l.symm;clear l;rw [<-hr];replace hr:=Hd hr;go_wp2_with fail
 refine (feed_lit (t:=t1) hR.out (by rfl) (by rfl) (by decide)).mono ?_;rintro e w2 ⟨v2,rfl,o,hf⟩;have b:=g.out.trans (hf.below g.out.size (fun i hi h=>by have:=hr.out;rcases h with h | h<;>omega))
 have q:=hN.out.below b;rw [nil_left] at o;clear hf hR g;replace b:=Hd b;replace q:=Hd q;replace o:=Hd o;go_wp2_with fail
 refine (next_stop0 (rp:=rp0) o.out (by decide) (env0 q.out) sc1.2 sc1.1).mono ?_;intro e w3 he;obtain ⟨he,⟨v3,s⟩,hf⟩:=he;have he:e=.returned (.tuple #[.agg #[.int .i64 0,.string ⟨#[]⟩,.int .i64 0,.float .f64 0,.bool false,.slice none 0 0],.bool false,.int .i64 0]):=he;subst he;have d:=b.out.trans (hf.below b.out.size (fun i hi h=>by have:=hr.out;omega));have ah:=Hd (hN.out.below d);clear hf o b q;replace d:=Hd d;replace s:=Hd s;go_upto_region 6 with fail
 obtain ⟨w4,hw4⟩:∃w4,w4=w3.alloc (.cells #[.int .i64 0,.string ⟨#[]⟩,.int .i64 0,.float .f64 0,.bool false,.slice none 0 0] 26):=⟨_,rfl⟩;rw [<-hw4];have j:Below w3.heap.size w3 w4:=by rw [hw4];exact (Below.refl _ _).alloc (Nat.le_refl _) _
 have aa:=Hd (d.out.trans (j.mono d.out.size));have ae:=Hd (s.out.below j);clear j d ah s;replace hw4:=Hd hw4;go_wp2_with fail
 refine (feed_lit (t:=t2) ae.out (by rfl) (by rfl) (by decide)).mono ?_;rintro e w5 ⟨v5,rfl,v,hf⟩;have f:=aa.out.trans (hf.below aa.out.size (fun i hi h=>by have:=hr.out;rcases h with h | h<;>omega))
 have af:=Hd (hN.out.below f);clear hf ae aa;replace f:=Hd f;replace v:=Hd v;have a:(t1++t2).size=8:=by rw [ByteArray.size_append];rfl
 replace a:=Hd a;go_wp2_with fail
 refine (next_got (rp:=rp0) (u:=8) (m:=1) (x:=Ar 4 ⟨#[97,98]⟩ 0 0 false) v.out (by rw [a.out];decide) (by decide) (by rw [a.out];decide) (env0 af.out) sc12.2 sc12.1).mono ?_;intro e w6 he;obtain ⟨ad,ca,he,_,⟨v6,y⟩,hf⟩:=he;have he:e=.returned (.tuple #[.agg #[.int .i64 4,.string ⟨#[97,98]⟩,.int .i64 0,.float .f64 0,.bool false,.slice ad 0 ca],.bool true,.int .i64 0]):=he;subst he;have ab:=Hd (f.out.trans (hf.below f.out.size (fun i hi h=>by have:=hr.out;omega)));have hv:=Hd (B5 w6 26 [.int .i64 4,.string ⟨#[97,98]⟩,.int .i64 0,.float .f64 0,.bool false,.slice ad 0 ca] rfl);have ag:=Hd (A4 w6 26);clear hf v f af;replace y:=Hd y;have z:True:=trivial;go_upto_region 8 with (have _t:=z;refine wpList_store_mid rfl 26 _ _ rfl w6.heap.size 0 _ rfl rfl ag.out Ad (one6 _ _ _ _ _ _ _ _) ?_;clear z _t)
 generalize (w6.alloc (.cells #[Value.int .i64 0,.string ⟨#[]⟩,.int .i64 0,.float .f64 0,.bool false,.slice none 0 0] 26)).setCells w6.heap.size 0 [Value.int .i64 4,.string ⟨#[97,98]⟩,.int .i64 0,.float .f64 0,.bool false,.slice ad 0 ca]=w7 at hv ⊢;obtain ⟨p,rv,kv⟩:=hv.out;have ac:=ab.out.trans (p.mono ab.out.size);have k:=y.out.below p;obtain ⟨a7,c7,rfl,_⟩:=k.buf.shape;have hz:((t1++t2).extract 8 (t1++t2).size).size=0:=by rw [ByteArray.size_extract,a.out];decide
 rw [hz] at k;have d0:=rv 0 _ rfl;have d1:=rv 1 _ rfl;simp only [Nat.zero_add] at d0 d1;have hL:=Hd (left_any k.c0);clear hv ag y ab p rv kv hz;replace ac:=Hd ac;replace k:=Hd k;go_wp2_with fail
 refine (hL.out).mono ?_;rintro e w' ⟨rfl,l⟩;obtain rfl:=l.symm;go_wp2_with fail
 go_ret;exact ⟨rfl,ac.out⟩
