/- Can a value be? -/
import Derived.Test.YtfaihaoajdcjbaaGreatDoorForm
import Derived.Deep.DeepCutAuto
import Derived.Test.YtfaihaoajdcjbaaGreatDoorBase
import Derived.Deep.RegionHeld3
set_option linter.all false
namespace Go.Proofs.YtfaihaoajdcjbaaGreatDoor
open Go.RowKit
def okV (v:V):Bool:=Dz v.kind && Df v && Bv v.kind v.text v.list.length && decide (v.text.size<=4096)
mutual
def V.fine:V->Int->Bool
 | .mk k t i r f l,d=>okV (.mk k t i r f l) && (!As k || decide (1<=d)) && V.fineL l (d - 1)
def V.fineL:List V->Int->Bool
 | [],_=>true
 | x :: l,d=>decide (x.kind≠14) && V.fine x d && V.fineL l d
end
mutual
def V.sized:V->Prop
 | .mk _ t _ _ _ l=>t.size<=9223372036854775807/\V.sizedL l
def V.sizedL:List V->Prop
 | []=>True
 | x :: l=>V.sized x/\V.sizedL l
end
theorem V.fine_eq (v:V) (d:Int):v.fine d=(okV v && (!As v.kind || decide (1<=d)) && V.fineL v.list (d - 1)):=by cases v;simp only [V.fine,V.kind,V.list]
theorem V.sized_eq (v:V):v.sized ↔ v.text.size<=9223372036854775807/\V.sizedL v.list:=by cases v;simp only [V.sized,V.text,V.list]
theorem V.sizedL_mem {l:List V} (h:V.sizedL l):∀x∈l,x.sized:=by
 induction l with
 | nil=>intro x hx;cases hx
 | cons y l ih=>
   intro x hx;rcases List.mem_cons.1 hx with rfl | hx
   · exact h.1
   · exact ih h.2 x hx
theorem V.fineL_snoc (l:List V) (x:V) (d:Int):V.fineL (l++[x]) d=(V.fineL l d && (decide (x.kind≠14) && V.fine x d)):=by
 induction l with
 | nil=>simp [V.fineL]
 | cons y l ih=>simp only [List.cons_append,V.fineL,ih,Bool.and_assoc]
theorem V.fineL_take {l:List V} {d:Int} (h:V.fineL l d=true) (j:Nat):V.fineL (l.take j) d=true:=by
 induction l generalizing j with
 | nil=>simp [V.fineL]
 | cons y l ih=>
   simp only [V.fineL,Bool.and_eq_true] at h;cases j with
   | zero=>simp [V.fineL]
   | succ j=>simp only [List.take_succ_cons,V.fineL,Bool.and_eq_true];exact ⟨h.1,ih h.2 j⟩
theorem V.countL_take (l:List V) (j:Nat):V.countL (l.take j)<=V.countL l:=by
 induction l generalizing j with
 | nil=>simp
 | cons y l ih=>
   cases j with
   | zero=>simp [V.countL]
   | succ j=>simp only [List.take_succ_cons,V.countL];have:=ih j;omega
theorem V.count_eq (v:V):v.count=V.countL v.list+1:=by cases v;simp only [V.count,V.list]
def Az (v:V) (deep left:Int):Int:=if v.fine deep=true/\(v.count:Int)<=left then left - v.count else -1
theorem B5 {v:V} {deep left:Int} (h:okV v=false\/left<1\/(As v.kind=true/\deep<1)):Az v deep left=-1:=by
 unfold Az;rw [if_neg];rintro ⟨h1,h2⟩;rw [V.fine_eq] at h1;simp only [Bool.and_eq_true,Bool.or_eq_true,Bool.not_eq_true', decide_eq_true_eq] at h1;have:=v.count_pos;rcases h with h | h | ⟨h,h'⟩
 · rw [h] at h1;simp at h1
 · omega
 · rcases h1.1.2 with h3 | h3
   · rw [h] at h3;cases h3
   · omega
theorem Ex {v x:V} {deep left:Int} {j:Nat} (hx:v.list[j]?=some x) (h:x.kind=14\/Az x (deep - 1) (left - 1 - V.countL (v.list.take j))<0):Az v deep left=-1:=by
 unfold Az;rw [if_neg];rintro ⟨h1,h2⟩;rw [V.fine_eq] at h1;simp only [Bool.and_eq_true] at h1;obtain ⟨hj,hxe⟩:=List.getElem?_eq_some_iff.1 hx;have ht:=V.fineL_take h1.2 (j+1);have hc:=V.countL_take v.list (j+1);rw [List.take_succ_eq_append_getElem hj,hxe] at ht hc;rw [V.fineL_snoc] at ht;rw [V.countL_append] at hc;simp only [V.countL,Nat.add_zero] at hc;simp only [Bool.and_eq_true,decide_eq_true_eq] at ht;rw [V.count_eq] at h2;rcases h with h | h
 · exact ht.2.1 h
 · unfold Az at h
   rw [if_pos ⟨ht.2.2,by omega⟩] at h;omega
theorem Fw {v:V} {deep left q:Int} (hok:okV v=true) (hd:As v.kind=true->1<=deep) (hf:V.fineL v.list (deep - 1)=true) (hq:0<=q) (hc:(V.countL v.list:Int)+q+1=left):Az v deep left=q:=by
 unfold Az;rw [if_pos]
 · rw [V.count_eq];omega
 · rw [V.fine_eq,hok,hf,V.count_eq]
   refine ⟨?_,by omega⟩;cases hl:As v.kind
   · simp
   · simp [hd hl]
theorem rightZ_lo (v:V) (deep left:Int):-1<=Az v deep left:=by unfold Az;split<;>omega
theorem rightZ_hi (v:V) (deep left:Int) (h:-1<=left):Az v deep left<=left:=by unfold Az;split<;>omega
theorem rightZ_step {x:V} {d q:Int} (h:0<=Az x d q):V.fine x d=true/\Az x d q=q - x.count:=by
 unfold Az at h ⊢;split at h
 · rename_i h1;rw [if_pos h1];exact ⟨h1.1,rfl⟩
 · omega
set_option maxRecDepth 100000 in
set_option maxHeartbeats 6400000 in
theorem right_any (v:V):∀(a:Option Addr) (cap:Nat) (deep left:Int) (w:World),RV w.cell? (Aj v.kind v.text v.int v.real v.flag a v.list.length cap) v->v.sized->v.count<=100000->0<=deep->deep<=1000->left<=100000->-10<=left ->
   Calls Tryz.prog 124 #[.agg #[.int .i64 v.kind,.string v.text,.int .i64 v.int,.float .f64 v.real,.bool v.flag,.slice a v.list.length cap],.int .i64 deep,.int .i64 left] w fun e w' => e=.returned (.int .i64 (Az v deep left))/\Below w.heap.size w w' := by
 induction v using V.ind with
 | h v ih=>
 intro a cap deep left w hv hsized hcnt hd0 hd1 hl1 hl0;replace ih:=Hd ih;have hsz:=((V.sized_eq v).1 hsized).1;have hsl:=Hd (((V.sized_eq v).1 hsized).2);have hn5:v.list.length<=100000:=by have:=V.length_le v.list;have:=v.count_list_lt;omega
 obtain ⟨W1,hW1⟩:∃W1,W1=w.alloc (.cells #[.int .i64 v.kind,.string v.text,.int .i64 v.int,.float .f64 v.real,.bool v.flag,.slice a v.list.length cap] 40):=⟨_,rfl⟩;have hb0:Below w.heap.size w W1:=by rw [hW1];exact (Below.refl _ _).alloc (Nat.le_refl _) _
 have hs1:W1.heap.size=w.heap.size+1:=by rw [hW1];simp
 have hB:∀q u,#[.int .i64 v.kind,.string v.text,.int .i64 v.int,.float .f64 v.real,.bool v.flag,.slice a v.list.length cap][q]?=some u->W1.cell? ⟨w.heap.size,q,none⟩=some u:=fun q u h=>by rw [hW1,World.cell?_alloc_new];exact h
 replace hs1:=Hd hs1;replace hB:=Hd hB;replace hW1:=Hd hW1;replace hb0:=Hd hb0;replace hv:=Hd hv;clear hsized;cases hk:Dz v.kind with
 | false=>
   rw [B5 (Or.inl (by simp [okV,hk]))]
   go_enter Tryz.func124,Tryz.ntmps124
   go_wp2_with fail
   rw [<-hW1.out];refine (Cx v.kind W1).mono ?_;rintro e w1 ⟨rfl,hb1⟩;have hbw1:Below w.heap.size w w1:=hb0.out.trans (hb1.mono (by rw [hs1.out];omega));have g0:=Aa hb1 _ _ (hB.out 0 (.int .i64 v.kind) rfl);have g1:=Aa hb1 _ _ (hB.out 1 (.string v.text) rfl);have g2:=Aa hb1 _ _ (hB.out 2 (.int .i64 v.int) rfl);have g3:=Aa hb1 _ _ (hB.out 3 (.float .f64 v.real) rfl);have g4:=Aa hb1 _ _ (hB.out 4 (.bool v.flag) rfl);have g5:=Aa hb1 _ _ (hB.out 5 (.slice a v.list.length cap) rfl);have hl1:w.heap.size<w1.heap.size:=World.block_lt_of_cell? _ _ g0;rw [hk];go_wp2;go_ret;exact ⟨rfl,hbw1.alloc hbw1.size _⟩
 | true=>
 cases hN:Df v with
 | false=>
   rw [B5 (Or.inl (by simp [okV,hN]))]
   go_enter Tryz.func124,Tryz.ntmps124
   go_wp2_with fail
   rw [<-hW1.out];refine (Cx v.kind W1).mono ?_;rintro e w1 ⟨rfl,hb1⟩;have hbw1:Below w.heap.size w w1:=hb0.out.trans (hb1.mono (by rw [hs1.out];omega));have g0:=Aa hb1 _ _ (hB.out 0 (.int .i64 v.kind) rfl);have g1:=Aa hb1 _ _ (hB.out 1 (.string v.text) rfl);have g2:=Aa hb1 _ _ (hB.out 2 (.int .i64 v.int) rfl);have g3:=Aa hb1 _ _ (hB.out 3 (.float .f64 v.real) rfl);have g4:=Aa hb1 _ _ (hB.out 4 (.bool v.flag) rfl);have g5:=Aa hb1 _ _ (hB.out 5 (.slice a v.list.length cap) rfl);have hl1:w.heap.size<w1.heap.size:=World.block_lt_of_cell? _ _ g0;rw [hk];go_wp2_with fail
   refine (Bm v a cap _).mono ?_;rintro e w2 ⟨rfl,hb2⟩;have hbx2:Below w1.heap.size w1 w2:=((Below.refl w1.heap.size w1).alloc (Nat.le_refl _) (.cells #[.bool (Bi v.kind),.bool (numK v.kind),.bool (Bl v.kind),.bool (Bk v.kind),.bool (As v.kind)] 195)).trans (hb2.mono (by simp));have p4:w2.cell? ⟨w1.heap.size,4,none⟩=some (.bool (As v.kind)):=Aa hb2 _ _ (by simp);have hb12:=hb1.trans (hbx2.mono hb1.size);have hbw2:Below w.heap.size w w2:=hbw1.trans (hbx2.mono hbw1.size);clear g0 g1 g2 g3 g4 g5 hb2;have g0:=Aa hb12 _ _ (hB.out 0 (.int .i64 v.kind) rfl);have g1:=Aa hb12 _ _ (hB.out 1 (.string v.text) rfl);have g2:=Aa hb12 _ _ (hB.out 2 (.int .i64 v.int) rfl);have g3:=Aa hb12 _ _ (hB.out 3 (.float .f64 v.real) rfl);have g4:=Aa hb12 _ _ (hB.out 4 (.bool v.flag) rfl);have g5:=Aa hb12 _ _ (hB.out 5 (.slice a v.list.length cap) rfl);rw [hN];go_wp2;go_ret;exact ⟨rfl,hbw2⟩
 | true=>
 cases hF:Bv v.kind v.text v.list.length with
 | false=>
   rw [B5 (Or.inl (by simp [okV,hF]))]
   go_enter Tryz.func124,Tryz.ntmps124
   go_wp2_with fail
   rw [<-hW1.out];refine (Cx v.kind W1).mono ?_;rintro e w1 ⟨rfl,hb1⟩;have hbw1:Below w.heap.size w w1:=hb0.out.trans (hb1.mono (by rw [hs1.out];omega));have g0:=Aa hb1 _ _ (hB.out 0 (.int .i64 v.kind) rfl);have g1:=Aa hb1 _ _ (hB.out 1 (.string v.text) rfl);have g2:=Aa hb1 _ _ (hB.out 2 (.int .i64 v.int) rfl);have g3:=Aa hb1 _ _ (hB.out 3 (.float .f64 v.real) rfl);have g4:=Aa hb1 _ _ (hB.out 4 (.bool v.flag) rfl);have g5:=Aa hb1 _ _ (hB.out 5 (.slice a v.list.length cap) rfl);have hl1:w.heap.size<w1.heap.size:=World.block_lt_of_cell? _ _ g0;rw [hk];go_wp2_with fail
   refine (Bm v a cap _).mono ?_;rintro e w2 ⟨rfl,hb2⟩;have hbx2:Below w1.heap.size w1 w2:=((Below.refl w1.heap.size w1).alloc (Nat.le_refl _) (.cells #[.bool (Bi v.kind),.bool (numK v.kind),.bool (Bl v.kind),.bool (Bk v.kind),.bool (As v.kind)] 195)).trans (hb2.mono (by simp));have p4:w2.cell? ⟨w1.heap.size,4,none⟩=some (.bool (As v.kind)):=Aa hb2 _ _ (by simp);have hb12:=hb1.trans (hbx2.mono hb1.size);have hbw2:Below w.heap.size w w2:=hbw1.trans (hbx2.mono hbw1.size);clear g0 g1 g2 g3 g4 g5 hb2;have g0:=Aa hb12 _ _ (hB.out 0 (.int .i64 v.kind) rfl);have g1:=Aa hb12 _ _ (hB.out 1 (.string v.text) rfl);have g2:=Aa hb12 _ _ (hB.out 2 (.int .i64 v.int) rfl);have g3:=Aa hb12 _ _ (hB.out 3 (.float .f64 v.real) rfl);have g4:=Aa hb12 _ _ (hB.out 4 (.bool v.flag) rfl);have g5:=Aa hb12 _ _ (hB.out 5 (.slice a v.list.length cap) rfl);rw [hN];go_wp2_with fail
   refine (Dh v.kind v.text v.int v.real v.flag a v.list.length cap _ hsz hn5).mono ?_;rintro e w3 ⟨rfl,hb3⟩;have p4:=Aa hb3 _ _ p4;have hb13:=hb12.trans (hb3.mono hb12.size);have hbw3:Below w.heap.size w w3:=hbw2.trans (hb3.mono hbw2.size);clear g0 g1 g2 g3 g4 g5;have g0:=Aa hb13 _ _ (hB.out 0 (.int .i64 v.kind) rfl);have g1:=Aa hb13 _ _ (hB.out 1 (.string v.text) rfl);have g2:=Aa hb13 _ _ (hB.out 2 (.int .i64 v.int) rfl);have g3:=Aa hb13 _ _ (hB.out 3 (.float .f64 v.real) rfl);have g4:=Aa hb13 _ _ (hB.out 4 (.bool v.flag) rfl);have g5:=Aa hb13 _ _ (hB.out 5 (.slice a v.list.length cap) rfl);rw [hF];go_wp2;go_ret;exact ⟨rfl,hbw3⟩
 | true=>
 by_cases hbig:v.text.size<=4096
 case neg=>
   rw [B5 (Or.inl (by simp [okV,hbig]))];have hbi:(4096:Int)<(v.text.size:Int):=by omega
   go_enter Tryz.func124,Tryz.ntmps124
   go_wp2_with fail
   rw [<-hW1.out];refine (Cx v.kind W1).mono ?_;rintro e w1 ⟨rfl,hb1⟩;have hbw1:Below w.heap.size w w1:=hb0.out.trans (hb1.mono (by rw [hs1.out];omega));have g0:=Aa hb1 _ _ (hB.out 0 (.int .i64 v.kind) rfl);have g1:=Aa hb1 _ _ (hB.out 1 (.string v.text) rfl);have g2:=Aa hb1 _ _ (hB.out 2 (.int .i64 v.int) rfl);have g3:=Aa hb1 _ _ (hB.out 3 (.float .f64 v.real) rfl);have g4:=Aa hb1 _ _ (hB.out 4 (.bool v.flag) rfl);have g5:=Aa hb1 _ _ (hB.out 5 (.slice a v.list.length cap) rfl);have hl1:w.heap.size<w1.heap.size:=World.block_lt_of_cell? _ _ g0;rw [hk];go_wp2_with fail
   refine (Bm v a cap _).mono ?_;rintro e w2 ⟨rfl,hb2⟩;have hbx2:Below w1.heap.size w1 w2:=((Below.refl w1.heap.size w1).alloc (Nat.le_refl _) (.cells #[.bool (Bi v.kind),.bool (numK v.kind),.bool (Bl v.kind),.bool (Bk v.kind),.bool (As v.kind)] 195)).trans (hb2.mono (by simp));have p4:w2.cell? ⟨w1.heap.size,4,none⟩=some (.bool (As v.kind)):=Aa hb2 _ _ (by simp);have hb12:=hb1.trans (hbx2.mono hb1.size);have hbw2:Below w.heap.size w w2:=hbw1.trans (hbx2.mono hbw1.size);clear g0 g1 g2 g3 g4 g5 hb2;have g0:=Aa hb12 _ _ (hB.out 0 (.int .i64 v.kind) rfl);have g1:=Aa hb12 _ _ (hB.out 1 (.string v.text) rfl);have g2:=Aa hb12 _ _ (hB.out 2 (.int .i64 v.int) rfl);have g3:=Aa hb12 _ _ (hB.out 3 (.float .f64 v.real) rfl);have g4:=Aa hb12 _ _ (hB.out 4 (.bool v.flag) rfl);have g5:=Aa hb12 _ _ (hB.out 5 (.slice a v.list.length cap) rfl);rw [hN];go_wp2_with fail
   refine (Dh v.kind v.text v.int v.real v.flag a v.list.length cap _ hsz hn5).mono ?_;rintro e w3 ⟨rfl,hb3⟩;have p4:=Aa hb3 _ _ p4;have hb13:=hb12.trans (hb3.mono hb12.size);have hbw3:Below w.heap.size w w3:=hbw2.trans (hb3.mono hbw2.size);clear g0 g1 g2 g3 g4 g5;have g0:=Aa hb13 _ _ (hB.out 0 (.int .i64 v.kind) rfl);have g1:=Aa hb13 _ _ (hB.out 1 (.string v.text) rfl);have g2:=Aa hb13 _ _ (hB.out 2 (.int .i64 v.int) rfl);have g3:=Aa hb13 _ _ (hB.out 3 (.float .f64 v.real) rfl);have g4:=Aa hb13 _ _ (hB.out 4 (.bool v.flag) rfl);have g5:=Aa hb13 _ _ (hB.out 5 (.slice a v.list.length cap) rfl);rw [hF];go_wp2;go_ret;exact ⟨rfl,hbw3⟩
 have hbi:¬(4096:Int)<(v.text.size:Int):=by omega
 have hok:okV v=true:=by simp [okV,hk,hN,hF,hbig]
 replace hok:=Hd hok;by_cases hlf:left<1
 · rw [B5 (Or.inr (Or.inl hlf))]
   go_enter Tryz.func124,Tryz.ntmps124
   go_wp2_with fail
   rw [<-hW1.out];refine (Cx v.kind W1).mono ?_;rintro e w1 ⟨rfl,hb1⟩;have hbw1:Below w.heap.size w w1:=hb0.out.trans (hb1.mono (by rw [hs1.out];omega));have g0:=Aa hb1 _ _ (hB.out 0 (.int .i64 v.kind) rfl);have g1:=Aa hb1 _ _ (hB.out 1 (.string v.text) rfl);have g2:=Aa hb1 _ _ (hB.out 2 (.int .i64 v.int) rfl);have g3:=Aa hb1 _ _ (hB.out 3 (.float .f64 v.real) rfl);have g4:=Aa hb1 _ _ (hB.out 4 (.bool v.flag) rfl);have g5:=Aa hb1 _ _ (hB.out 5 (.slice a v.list.length cap) rfl);have hl1:w.heap.size<w1.heap.size:=World.block_lt_of_cell? _ _ g0;rw [hk];go_wp2_with fail
   refine (Bm v a cap _).mono ?_;rintro e w2 ⟨rfl,hb2⟩;have hbx2:Below w1.heap.size w1 w2:=((Below.refl w1.heap.size w1).alloc (Nat.le_refl _) (.cells #[.bool (Bi v.kind),.bool (numK v.kind),.bool (Bl v.kind),.bool (Bk v.kind),.bool (As v.kind)] 195)).trans (hb2.mono (by simp));have p4:w2.cell? ⟨w1.heap.size,4,none⟩=some (.bool (As v.kind)):=Aa hb2 _ _ (by simp);have hb12:=hb1.trans (hbx2.mono hb1.size);have hbw2:Below w.heap.size w w2:=hbw1.trans (hbx2.mono hbw1.size);clear g0 g1 g2 g3 g4 g5 hb2;have g0:=Aa hb12 _ _ (hB.out 0 (.int .i64 v.kind) rfl);have g1:=Aa hb12 _ _ (hB.out 1 (.string v.text) rfl);have g2:=Aa hb12 _ _ (hB.out 2 (.int .i64 v.int) rfl);have g3:=Aa hb12 _ _ (hB.out 3 (.float .f64 v.real) rfl);have g4:=Aa hb12 _ _ (hB.out 4 (.bool v.flag) rfl);have g5:=Aa hb12 _ _ (hB.out 5 (.slice a v.list.length cap) rfl);rw [hN];go_wp2_with fail
   refine (Dh v.kind v.text v.int v.real v.flag a v.list.length cap _ hsz hn5).mono ?_;rintro e w3 ⟨rfl,hb3⟩;have p4:=Aa hb3 _ _ p4;have hb13:=hb12.trans (hb3.mono hb12.size);have hbw3:Below w.heap.size w w3:=hbw2.trans (hb3.mono hbw2.size);clear g0 g1 g2 g3 g4 g5;have g0:=Aa hb13 _ _ (hB.out 0 (.int .i64 v.kind) rfl);have g1:=Aa hb13 _ _ (hB.out 1 (.string v.text) rfl);have g2:=Aa hb13 _ _ (hB.out 2 (.int .i64 v.int) rfl);have g3:=Aa hb13 _ _ (hB.out 3 (.float .f64 v.real) rfl);have g4:=Aa hb13 _ _ (hB.out 4 (.bool v.flag) rfl);have g5:=Aa hb13 _ _ (hB.out 5 (.slice a v.list.length cap) rfl);rw [hF];clear hok hbig hF hN hk;go_wp2;go_ret;exact ⟨rfl,hbw3⟩
 by_cases hdd:As v.kind=true/\deep<1
 · obtain ⟨hlk,hdp⟩:=hdd
   rw [B5 (Or.inr (Or.inr ⟨hlk,hdp⟩))];replace hlk:=Hd hlk
   go_enter Tryz.func124,Tryz.ntmps124
   go_wp2_with fail
   rw [<-hW1.out];refine (Cx v.kind W1).mono ?_;rintro e w1 ⟨rfl,hb1⟩;have hbw1:Below w.heap.size w w1:=hb0.out.trans (hb1.mono (by rw [hs1.out];omega));have g0:=Aa hb1 _ _ (hB.out 0 (.int .i64 v.kind) rfl);have g1:=Aa hb1 _ _ (hB.out 1 (.string v.text) rfl);have g2:=Aa hb1 _ _ (hB.out 2 (.int .i64 v.int) rfl);have g3:=Aa hb1 _ _ (hB.out 3 (.float .f64 v.real) rfl);have g4:=Aa hb1 _ _ (hB.out 4 (.bool v.flag) rfl);have g5:=Aa hb1 _ _ (hB.out 5 (.slice a v.list.length cap) rfl);have hl1:w.heap.size<w1.heap.size:=World.block_lt_of_cell? _ _ g0;rw [hk];go_wp2_with fail
   refine (Bm v a cap _).mono ?_;rintro e w2 ⟨rfl,hb2⟩;have hbx2:Below w1.heap.size w1 w2:=((Below.refl w1.heap.size w1).alloc (Nat.le_refl _) (.cells #[.bool (Bi v.kind),.bool (numK v.kind),.bool (Bl v.kind),.bool (Bk v.kind),.bool (As v.kind)] 195)).trans (hb2.mono (by simp));have p4:w2.cell? ⟨w1.heap.size,4,none⟩=some (.bool (As v.kind)):=Aa hb2 _ _ (by simp);have hb12:=hb1.trans (hbx2.mono hb1.size);have hbw2:Below w.heap.size w w2:=hbw1.trans (hbx2.mono hbw1.size);clear g0 g1 g2 g3 g4 g5 hb2;have g0:=Aa hb12 _ _ (hB.out 0 (.int .i64 v.kind) rfl);have g1:=Aa hb12 _ _ (hB.out 1 (.string v.text) rfl);have g2:=Aa hb12 _ _ (hB.out 2 (.int .i64 v.int) rfl);have g3:=Aa hb12 _ _ (hB.out 3 (.float .f64 v.real) rfl);have g4:=Aa hb12 _ _ (hB.out 4 (.bool v.flag) rfl);have g5:=Aa hb12 _ _ (hB.out 5 (.slice a v.list.length cap) rfl);rw [hN];go_wp2_with fail
   refine (Dh v.kind v.text v.int v.real v.flag a v.list.length cap _ hsz hn5).mono ?_;rintro e w3 ⟨rfl,hb3⟩;have p4:=Aa hb3 _ _ p4;have hb13:=hb12.trans (hb3.mono hb12.size);have hbw3:Below w.heap.size w w3:=hbw2.trans (hb3.mono hbw2.size);clear g0 g1 g2 g3 g4 g5;have g0:=Aa hb13 _ _ (hB.out 0 (.int .i64 v.kind) rfl);have g1:=Aa hb13 _ _ (hB.out 1 (.string v.text) rfl);have g2:=Aa hb13 _ _ (hB.out 2 (.int .i64 v.int) rfl);have g3:=Aa hb13 _ _ (hB.out 3 (.float .f64 v.real) rfl);have g4:=Aa hb13 _ _ (hB.out 4 (.bool v.flag) rfl);have g5:=Aa hb13 _ _ (hB.out 5 (.slice a v.list.length cap) rfl);rw [hF];rw [hlk.out] at p4;clear hok hbig hF hN hk;go_wp2;go_ret;exact ⟨rfl,hbw3⟩
 have hdp:As v.kind=true->1<=deep:=fun h=>by
   rcases (by omega:1<=deep\/deep<1) with h1 | h1
   · exact h1
   · exact absurd ⟨h,h1⟩ hdd
 have hd2:(As v.kind && decide (deep<1))=false:=by
   cases h:As v.kind
   · rfl
   · have:=hdp h;simp;omega
 replace hdd:=Hd hdd;replace hdp:=Hd hdp
 go_enter Tryz.func124,Tryz.ntmps124
 go_wp2_with fail
 rw [<-hW1.out];refine (Cx v.kind W1).mono ?_;rintro e w1 ⟨rfl,hb1⟩;have hbw1:Below w.heap.size w w1:=hb0.out.trans (hb1.mono (by rw [hs1.out];omega));have g0:=Aa hb1 _ _ (hB.out 0 (.int .i64 v.kind) rfl);have g1:=Aa hb1 _ _ (hB.out 1 (.string v.text) rfl);have g2:=Aa hb1 _ _ (hB.out 2 (.int .i64 v.int) rfl);have g3:=Aa hb1 _ _ (hB.out 3 (.float .f64 v.real) rfl);have g4:=Aa hb1 _ _ (hB.out 4 (.bool v.flag) rfl);have g5:=Aa hb1 _ _ (hB.out 5 (.slice a v.list.length cap) rfl);have hl1:w.heap.size<w1.heap.size:=World.block_lt_of_cell? _ _ g0;rw [hk];go_wp2_with fail
 refine (Bm v a cap _).mono ?_;rintro e w2 ⟨rfl,hb2⟩;have hbx2:Below w1.heap.size w1 w2:=((Below.refl w1.heap.size w1).alloc (Nat.le_refl _) (.cells #[.bool (Bi v.kind),.bool (numK v.kind),.bool (Bl v.kind),.bool (Bk v.kind),.bool (As v.kind)] 195)).trans (hb2.mono (by simp));have p4:w2.cell? ⟨w1.heap.size,4,none⟩=some (.bool (As v.kind)):=Aa hb2 _ _ (by simp);have hb12:=hb1.trans (hbx2.mono hb1.size);have hbw2:Below w.heap.size w w2:=hbw1.trans (hbx2.mono hbw1.size);clear g0 g1 g2 g3 g4 g5 hb2;have g0:=Aa hb12 _ _ (hB.out 0 (.int .i64 v.kind) rfl);have g1:=Aa hb12 _ _ (hB.out 1 (.string v.text) rfl);have g2:=Aa hb12 _ _ (hB.out 2 (.int .i64 v.int) rfl);have g3:=Aa hb12 _ _ (hB.out 3 (.float .f64 v.real) rfl);have g4:=Aa hb12 _ _ (hB.out 4 (.bool v.flag) rfl);have g5:=Aa hb12 _ _ (hB.out 5 (.slice a v.list.length cap) rfl);rw [hN];go_wp2_with fail
 refine (Dh v.kind v.text v.int v.real v.flag a v.list.length cap _ hsz hn5).mono ?_;rintro e w3 ⟨rfl,hb3⟩;have p4:=Aa hb3 _ _ p4;have hb13:=hb12.trans (hb3.mono hb12.size);have hbw3:Below w.heap.size w w3:=hbw2.trans (hb3.mono hbw2.size);clear g0 g1 g2 g3 g4 g5;have g0:=Aa hb13 _ _ (hB.out 0 (.int .i64 v.kind) rfl);have g1:=Aa hb13 _ _ (hB.out 1 (.string v.text) rfl);have g2:=Aa hb13 _ _ (hB.out 2 (.int .i64 v.int) rfl);have g3:=Aa hb13 _ _ (hB.out 3 (.float .f64 v.real) rfl);have g4:=Aa hb13 _ _ (hB.out 4 (.bool v.flag) rfl);have g5:=Aa hb13 _ _ (hB.out 5 (.slice a v.list.length cap) rfl);rw [hF];have hN0:As v.kind=false->v.list.length=0:=fun h=>by
   simp only [Df,Fg,Bool.and_eq_true,Bool.or_eq_true,decide_eq_true_eq] at hN;rcases hN.2 with h1 | h1
   · rw [h] at h1;cases h1
   · exact h1
 clear hF hN hk hbig hd2;cases hlk:As v.kind with
 | false=>
   have hz:=hN0 hlk;rw [hlk] at p4;replace hlk:=Hd hlk;clear hN0;go_wp2_with fail
   clear g0 g1 g2 g3 g4 g5 p4;replace hz:=Hd hz;go_loopw [2,53] (fun s2 s53 wr=>s53=.int .i64 0/\s2=.int .i64 (left - 1)/\Below w.heap.size w wr) (fun _ s53 _=>v.list.length - (intOf s53).toNat)
   case atStart=>exact ⟨rfl,rfl,hbw3⟩
   case round=>
     obtain ⟨rfl,rfl,hbel⟩:=hrel;have hlt:¬(0:Int)<(v.list.length:Int):=by have:=hz.out;omega
     have hlt' : ¬0<v.list.length:=by have:=hz.out;omega
     clear hbw3;go_wp2;go_ret;have hl0:v.list=[]:=List.length_eq_zero_iff.1 hz.out;exact ⟨by rw [Fw (q:=left - 1) hok.out hdp.out (by rw [hl0];simp [V.fineL]) (by omega) (by rw [hl0];simp [V.countL])];rfl,hbel⟩
 | true=>
   have hd4:1<=deep:=hdp.out hlk;have hd3:¬deep<1:=by omega
   rw [hlk] at p4;replace hlk:=Hd hlk;clear hN0;go_wp2_with fail
   clear g0 g1 g2 g3 g4 g5 p4;go_loopw [2,53] (fun s2 s53 wr=>∃(j:Nat) (q:Int),j<=v.list.length/\s53=.int .i64 j/\s2=.int .i64 q/\0<=q/\(V.countL (v.list.take j):Int)+q+1=left/\V.fineL (v.list.take j) (deep - 1)=true/\Below w.heap.size w wr) (fun _ s53 _=>v.list.length - (intOf s53).toNat)
   case atStart=>exact ⟨0,left - 1,Nat.zero_le _,rfl,rfl,by omega,by simp [V.countL],by simp [V.fineL],hbw3⟩
   case round=>
     obtain ⟨j,q,hj,rfl,rfl,hq0,hcn,hfn,hbel⟩:=hrel;clear hbw3;replace hcn:=Hd hcn;replace hfn:=Hd hfn;have hql:q<=left:=by have:=hcn.out;omega
     by_cases hlt:j<v.list.length
     · obtain ⟨x,b,o,a', cap', hxj,hmem,rfl,hx,d0,d1,d2,d3,d4,d5⟩:=hv.out.elem' hlt
       have hbw:=World.block_lt_of_cell? _ _ d0;have up:∀(q:Nat) u,w.cell? ⟨b,q,none⟩=some u->wr.cell? ⟨b,q,none⟩=some u:=fun q u h=>by rw [hbel.cell (by exact hbw)];exact h
       replace d0:=up _ _ d0;replace d1:=up _ _ d1;replace d2:=up _ _ d2;replace d3:=up _ _ d3;replace d4:=up _ _ d4;replace d5:=up _ _ d5;have hx' := Hd (hx.mono (Aa (hbel.trans ((Below.refl wr.heap.size wr).alloc (Nat.le_refl _) (.cells #[.int .i64 x.kind,.string x.text,.int .i64 x.int,.float .f64 x.real,.bool x.flag,.slice a' x.list.length cap'] 40) |>.mono hbel.size))));have hxs:=Hd (V.sizedL_mem hsl.out x hmem);have hxc:x.count<=100000:=by have:=V.count_mem hmem;have:=v.count_list_lt;omega
       have hts:v.list.take (j+1)=v.list.take j++[x]:=by
         obtain ⟨h1,h2⟩:=List.getElem?_eq_some_iff.1 hxj;rw [List.take_succ_eq_append_getElem h1,h2]
       have hal:Below w.heap.size w (wr.alloc (.cells #[.int .i64 x.kind,.string x.text,.int .i64 x.int,.float .f64 x.real,.bool x.flag,.slice a' x.list.length cap'] 40)):=hbel.alloc hbel.size _;replace hxj:=Hd hxj;replace hmem:=Hd hmem;replace hts:=Hd hts;replace hal:=Hd hal;clear up hx;by_cases h14:x.kind=14
       · have h14b:(x.kind == 14)=true:=by simpa using h14
         have hno:Az v deep left=-1:=Ex hxj.out (Or.inl h14);replace h14:=Hd h14;replace hno:=Hd hno;go_wp2;go_ret;exact ⟨by rw [hno.out];rfl,hal.out⟩
       · have h14b:(x.kind == 14)=false:=by simpa using h14
         replace h14:=Hd h14;go_wp2_with fail
         refine (ih.out x hmem.out a' cap' (deep - 1) q _ hx'.out hxs.out hxc (by omega) (by omega) (by omega) (by omega)).mono ?_;rintro e w4 ⟨rfl,hb4⟩;have hbel4:Below w.heap.size w w4:=hal.out.trans (hb4.mono hal.out.size);have hlo:=rightZ_lo x (deep - 1) q;have hhi:=rightZ_hi x (deep - 1) q (by omega);obtain ⟨p,hp⟩:∃p,p=Az x (deep - 1) q:=⟨_,rfl⟩;rw [<-hp] at hlo hhi ⊢;replace hp:=Hd hp;clear hb4 hbel d0 d1 d2 d3 d4 d5;by_cases hpn:p<0
         · have hno:Az v deep left=-1:=Ex hxj.out (Or.inr (by
             have h1:left - 1 - (V.countL (v.list.take j):Int)=q:=by have:=hcn.out;omega
             rw [h1,<-hp.out];exact hpn))
           replace hno:=Hd hno;go_wp2;go_ret;exact ⟨by rw [hno.out];rfl,hbel4⟩
         · go_wp2
           go_roundw
           case rel=>
             have hst:=rightZ_step (x:=x) (d:=deep - 1) (q:=q) (by rw [<-hp.out];omega);refine ⟨j+1,p,by omega,by go_num,rfl,by omega,?_,?_,hbel4⟩
             · rw [hts.out,V.countL_append]
               simp only [V.countL,Nat.add_zero];have:=hcn.out;have h2:=hst.2;rw [<-hp.out] at h2;omega
             · rw [hts.out,V.fineL_snoc,hfn.out,hst.1]
               simp [h14.out]
           case measure=>simp [intOf];omega
     · have hjn:j=v.list.length:=by omega
       subst hjn;rw [List.take_length] at hcn hfn;go_wp2;go_ret;exact ⟨by rw [Fw hok.out hdp.out hfn.out hq0 hcn.out];rfl,hbel⟩
def Dw (v:V):Int:=if v.fine 8=true/\v.count<=1000 then 0 else 31
theorem check_any (v:V) (a:Option Addr) (cap:Nat) (w:World) (hv:RV w.cell? (Aj v.kind v.text v.int v.real v.flag a v.list.length cap) v) (hs:v.sized) (hc:v.count<=100000) :
   Calls Tryz.prog 105 #[.agg #[.int .i64 v.kind,.string v.text,.int .i64 v.int,.float .f64 v.real,.bool v.flag,.slice a v.list.length cap]] w fun e w' => e=.returned (.int .i64 (Dw v))/\Below w.heap.size w w' := by
 have hal:=(Below.refl w.heap.size w).alloc (Nat.le_refl _) (.cells #[.int .i64 v.kind,.string v.text,.int .i64 v.int,.float .f64 v.real,.bool v.flag,.slice a v.list.length cap] 40);have hv' := Hd (hv.mono (Aa hal));replace hal:=Hd hal;clear hv
 go_enter Tryz.func105,Tryz.ntmps105
 go_wp2_with fail
 refine (right_any v a cap 8 1000 _ hv'.out hs hc (by omega) (by omega) (by omega) (by omega)).mono ?_;rintro e w1 ⟨rfl,hb⟩;have hbel:=hal.out.trans (hb.mono (by simp));clear hb;by_cases h:v.fine 8=true/\v.count<=1000
 · have h1:Az v 8 1000=1000 - v.count:=by unfold Az;rw [if_pos ⟨h.1,by omega⟩]
   have h2:Dw v=0:=by unfold Dw;rw [if_pos h]
   have h3:=h.2;rw [h1];replace h2:=Hd h2;clear h h1;have h4:¬((1000:Int) - v.count<0):=by omega
   go_wp2;go_ret;exact ⟨by rw [h2.out];rfl,hbel⟩
 · have h1:Az v 8 1000=-1:=by unfold Az;rw [if_neg (fun h' => h ⟨h'.1,by omega⟩)]
   have h2:Dw v=31:=by unfold Dw;rw [if_neg h]
   rw [h1];replace h2:=Hd h2;clear h h1;go_wp2;go_ret;exact ⟨by rw [h2.out];rfl,hbel⟩
theorem Fe {P:Program} {w0:World} {t e base size bytes n m cx:Nat} {ax:Option Addr} {v:Value} {xs news:List Value} (ty:TypeId) (E:Elem P t e size bytes)
   (hown:w0.ownsRow base e size v n xs) (hr:Reads w0 size (.slice ax m cx) m news) (hnil:ax=none->cx=0) (h1:news.all (fun u=>u.oneCell')=true) (hn:n+m<1000000000) (hbase:base<=w0.heap.size) :
   ∃v' w', (Builtin.append_ #[t,t] ty #[v,.slice ax m cx]).run P w0=.ok v' w' /\ w'.ownsRow base e size v' (n+m) (xs++news)/\Fr (fun k=>v.ownBlock=some k) w0 w' /\ ∀k,v'.ownBlock=some k->v.ownBlock=some k\/w0.heap.size<=k:=by
 obtain ⟨ht,hsz,hb,i,z,hi,hz,hi1,hi2,hz1⟩:=E;have hl:=hr.len.2;cases ax with
 | none=>
   have hm:m=0:=by
     rcases Nat.eq_zero_or_pos m with h | h
     · exact h
     · have:0<news.length:=by rw [hl];exact Nat.mul_pos h hsz
       obtain ⟨b,o', ha,_⟩:=hr.at this;cases ha
   subst hm;have:news=[]:=by simpa using hl
   subst this;rw [hnil rfl];exact ⟨v,w0,run_append_owned_none w0 base t ty e i size ht hi v n xs hown,by simpa using hown,Fr.refl _ _,fun k hk=>Or.inl hk⟩
 | some ad=>
   obtain ⟨v', w', hrun,g1,g2,_,g4⟩:=run_append_own_at (P:=P) w0 base t ty e i z size bytes ht hi hz hi1 hi2 hz1 hsz v n xs hown ad m cx news hl (fun j u hj=>by
     obtain ⟨b,o', ha,hc⟩:=hr.at (List.getElem?_eq_some_iff.1 hj).1;cases ha
     have:=hc j u hj;unfold Addr.add;split
     · rename_i h;rw [h] at this;simpa using this
     · exact this) (fun u hu=>List.all_eq_true.1 h1 u hu) (by unfold maxLen;omega) (by
     have:(n+m) * bytes<=1000000000 * 100000:=Nat.mul_le_mul (by omega) hb;omega) hbase
   refine ⟨v', w', hrun,g1,Fr.of_grown g2,fun k hk=>?_⟩;rcases g4 with g4 | g4
   · exact Or.inl (g4 ▸ hk)
   · rw [g4] at hk;simp at hk;exact Or.inr (by omega)
end Go.Proofs.YtfaihaoajdcjbaaGreatDoor
