/- The document's 'all' and 'Right'. -/
import Derived.Test.YtagkgfniihiinaaGreatDoorJ51
set_option linter.all false
namespace Go.Proofs.YtagkgfniihiinaaGreatDoor
open Go.RowKit
mutual
def V.allb:V->Int->Bool
 | .mk k t i r f l,d=>okV (.mk k t i r f l) && decide (d<=8) && V.allbL l (d+1)
def V.allbL:List V->Int->Bool
 | [],_=>true
 | x :: l,d=>decide (x.kind≠14) && V.allb x d && V.allbL l d
end
theorem V.allb_eq (v:V) (d:Int):v.allb d=(okV v && decide (d<=8) && V.allbL v.list (d+1)):=by cases v;simp only [V.allb,V.list]
theorem V.allbL_snoc (l:List V) (x:V) (d:Int):V.allbL (l++[x]) d=(V.allbL l d && (decide (x.kind≠14) && V.allb x d)):=by
 induction l with
 | nil=>simp [V.allbL]
 | cons y l ih=>simp only [List.cons_append,V.allbL,ih,Bool.and_assoc]
theorem V.allbL_no {l:List V} {x:V} {d:Int} (hx:x∈l) (h:x.kind=14\/V.allb x d=false):V.allbL l d=false:=by
 induction l with
 | nil=>cases hx
 | cons y l ih=>
   simp only [V.allbL];rcases List.mem_cons.1 hx with rfl | hx
   · rcases h with h | h
     · simp [h]
     · simp [h]
   · rw [ih hx];simp
theorem V.fine_allb (v:V):∀(d:Int),0<=d->v.fine d=(v.allb (8 - d) && decide (v.dep<=d)):=by
 induction v using V.ind with
 | h v ih=>
 intro d hd;rw [V.fine_eq,V.allb_eq,decide_eq_true (show 8 - d<=8 by omega),Bool.and_true,V.dep_eq];cases hok:okV v with
 | false=>simp
 | true=>
 have h0:=V.depL_nonneg v.list;cases hl:Ak v.kind with
 | false=>
   have hN:Bz v=true:=by simp only [okV,Bool.and_eq_true] at hok;exact hok.1.1.2
   have hz:v.list=[]:=by
     simp only [Bz,Bi,Bool.and_eq_true,Bool.or_eq_true,decide_eq_true_eq] at hN;rcases hN.2 with h1 | h1
     · rw [hl] at h1;cases h1
     · exact List.length_eq_zero_iff.1 h1
   rw [hz];simp [V.fineL,V.allbL,hd]
 | true=>
   by_cases h1:1<=d
   · have key:∀l:List V,(∀x∈l,x∈v.list)->V.fineL l (d - 1)=(V.allbL l (8 - d+1) && decide (V.depL l+1<=d)):=by
       intro l;induction l with
       | nil=>intro _;simp [V.fineL,V.allbL,V.depL];omega
       | cons y l ihl=>
         intro hm;have h2:=ihl (fun x hx=>hm x (by simp [hx]));have h3:=ih y (hm y (by simp)) (d - 1) (by omega);have hdl:decide (V.depL (y :: l)+1<=d)=(decide (y.dep<=d - 1) && decide (V.depL l+1<=d)):=by
           rw [Bool.eq_iff_iff];simp only [decide_eq_true_eq,Bool.and_eq_true];rw [V.depL];omega
         rw [hdl];simp only [V.fineL,V.allbL,h2,h3,show 8 - (d - 1)=8 - d+1 by omega];generalize decide (y.kind≠14)=b1;generalize y.allb (8 - d+1)=b2;generalize decide (y.dep<=d - 1)=b3;generalize V.allbL l (8 - d+1)=b4;generalize decide (V.depL l+1<=d)=b5;cases b1<;>cases b2<;>cases b3<;>cases b4<;>cases b5<;>rfl
     rw [key v.list (fun x hx=>hx)];simp [h1]
   · rw [decide_eq_false h1]
     simp;intro _;omega
def En (v:V):Bool:=v.allb 0 && decide (v.dep<=8) && decide (v.count<=1000)
theorem right_check (v:V):(Eo v == 0)=En v:=by
 have h:=V.fine_allb v 8 (by omega);rw [show (8:Int) - 8=0 by omega] at h;unfold Eo En;rw [h];by_cases h1:(v.allb 0 && decide (v.dep<=8))=true
 · by_cases h2:v.count<=1000
   · rw [if_pos ⟨h1,h2⟩,h1];simp [h2]
   · rw [if_neg (fun h=>h2 h.2),h1];simp [h2]
 · rw [if_neg (fun h=>h1 h.1)]
   have:(v.allb 0 && decide (v.dep<=8))=false:=by simpa using h1
   rw [this];rfl
set_option maxRecDepth 100000 in
set_option maxHeartbeats 3200000 in
theorem all_any03 (v:V):∀(a:Option Addr) (cap:Nat) (deep:Int) (w:World),RV w.cell? (An v.kind v.text v.int v.real v.flag a v.list.length cap) v->v.sized->v.count<=100000->0<=deep->deep<=9 ->
   Calls Tryz.prog 36 #[.agg #[.int .i64 v.kind,.string v.text,.int .i64 v.int,.float .f64 v.real,.bool v.flag,.slice a v.list.length cap],.int .i64 deep] w fun e w' => e=.returned (.bool (v.allb deep))/\Below w.heap.size w w' := by
 induction v using V.ind with
 | h v ih=>
 intro a cap deep w hv hsized hcnt hd0 hd9
 replace ih:=Hd ih
 have hsz:=((V.sized_eq v).1 hsized).1
 have hsl:=((V.sized_eq v).1 hsized).2
 have hn5:v.list.length<=100000:=by have:=V.length_le v.list;have:=v.count_list_lt;omega
 replace hsl:=Hd hsl
 have hal0:=(Below.refl w.heap.size w).alloc (Nat.le_refl _) (.cells #[.int .i64 v.kind,.string v.text,.int .i64 v.int,.float .f64 v.real,.bool v.flag,.slice a v.list.length cap] 26)
 have g5:(w.alloc (.cells #[.int .i64 v.kind,.string v.text,.int .i64 v.int,.float .f64 v.real,.bool v.flag,.slice a v.list.length cap] 26)).cell? ⟨w.heap.size,5,none⟩=some (.slice a v.list.length cap):=by rw [World.cell?_alloc_new];rfl
 have hae:=V.allb_eq v deep
 replace hae:=Hd hae
 replace hal0:=Hd hal0
 replace g5:=Hd g5
 replace hv:=Hd hv
 clear hsized
 go_enter Tryz.func36,Tryz.ntmps36
 go_wp2_with fail
 refine (own_any v a cap _ hsz hn5).mono ?_
 rintro e w1 ⟨rfl,hb1⟩
 have hbw1:Below w.heap.size w w1:=hal0.out.trans (hb1.mono (by simp))
 have g5:=Aa hb1 _ _ g5.out
 clear hb1
 cases hok:okV v with
 | false=>
   rw [hok] at hae;replace hok:=Hd hok;go_wp2;go_ret;exact ⟨by rw [hae.out];simp,hbw1⟩
 | true=>
 by_cases hd8:8<deep
 · go_wp2
   go_ret;exact ⟨by rw [hae.out,decide_eq_false (show ¬deep<=8 by omega)];simp,hbw1⟩
 · have hae2:v.allb deep=V.allbL v.list (deep+1):=by rw [hae.out,hok,decide_eq_true (show deep<=8 by omega)];rfl
   replace hae2:=Hd hae2;replace hok:=Hd hok;clear hae;go_wp2_with fail
   go_loopw [17] (fun s17 wr=>∃j:Nat,j<=v.list.length/\s17=.int .i64 j/\V.allbL (v.list.take j) (deep+1)=true/\Below w.heap.size w wr) (fun s17 _=>v.list.length - (intOf s17).toNat)
   case atStart=>exact ⟨0,Nat.zero_le _,rfl,by simp [V.allbL],hbw1⟩
   case round=>
     obtain ⟨j,hj,rfl,hall,hbel⟩:=hrel;clear hbw1 g5;replace hall:=Hd hall;by_cases hlt:j<v.list.length
     · obtain ⟨x,b,o,a', cap', hxj,hmem,rfl,hx,d0,d1,d2,d3,d4,d5⟩:=hv.out.elem' hlt
       have hbw:=World.block_lt_of_cell? _ _ d0;have up:∀(q:Nat) u,w.cell? ⟨b,q,none⟩=some u->wr.cell? ⟨b,q,none⟩=some u:=fun q u h=>by rw [hbel.cell (by exact hbw)];exact h
       replace d0:=up _ _ d0;replace d1:=up _ _ d1;replace d2:=up _ _ d2;replace d3:=up _ _ d3;replace d4:=up _ _ d4;replace d5:=up _ _ d5;have hx' := hx.mono (Aa (hbel.trans ((Below.refl wr.heap.size wr).alloc (Nat.le_refl _) (.cells #[.int .i64 x.kind,.string x.text,.int .i64 x.int,.float .f64 x.real,.bool x.flag,.slice a' x.list.length cap'] 26) |>.mono hbel.size)));have hxc:x.count<=100000:=by have:=V.count_mem hmem;have:=v.count_list_lt;omega
       have hts:v.list.take (j+1)=v.list.take j++[x]:=by
         obtain ⟨h1,h2⟩:=List.getElem?_eq_some_iff.1 hxj;rw [List.take_succ_eq_append_getElem h1,h2]
       have hal:Below w.heap.size w (wr.alloc (.cells #[.int .i64 x.kind,.string x.text,.int .i64 x.int,.float .f64 x.real,.bool x.flag,.slice a' x.list.length cap'] 26)):=hbel.alloc hbel.size _;replace hx' := Hd hx';replace hxj:=Hd hxj;replace hmem:=Hd hmem;replace hts:=Hd hts;replace hal:=Hd hal;clear up hx;have hxs:=V.sizedL_mem hsl.out x hmem.out;replace hxs:=Hd hxs;by_cases h14:x.kind=14
       · have h14b:(x.kind == 14)=true:=by simpa using h14
         have hno:=V.allbL_no (d:=deep+1) hmem.out (Or.inl h14);replace h14:=Hd h14;replace hno:=Hd hno;go_wp2;go_ret;exact ⟨by rw [hae2.out,hno.out];rfl,hal.out⟩
       · have h14b:(x.kind == 14)=false:=by simpa using h14
         replace h14:=Hd h14;go_wp2_with fail
         refine (ih.out x hmem.out a' cap' (deep+1) _ hx'.out hxs.out hxc (by omega) (by omega)).mono ?_;rintro e w4 ⟨rfl,hb4⟩;have hbel4:Below w.heap.size w w4:=hal.out.trans (hb4.mono hal.out.size);clear hb4 hbel d0 d1 d2 d3 d4 d5;cases hxa:x.allb (deep+1) with
         | false=>
           have hno:=V.allbL_no (d:=deep+1) hmem.out (Or.inr hxa);replace hno:=Hd hno;replace hxa:=Hd hxa;go_wp2;go_ret;exact ⟨by rw [hae2.out,hno.out];rfl,hbel4⟩
         | true=>
           replace hxa:=Hd hxa;go_wp2
           go_roundw
           case rel=>exact ⟨j+1,by omega,by go_num,by rw [hts.out,V.allbL_snoc,hall.out,hxa.out];simp [h14.out],hbel4⟩
           case measure=>simp [intOf];omega
     · have hjn:j=v.list.length:=by omega
       subst hjn;rw [List.take_length] at hall;go_wp2;go_ret;exact ⟨by rw [hae2.out,hall.out];rfl,hbel⟩
set_option maxHeartbeats 1600000 in
theorem rright_any (v:V) (a:Option Addr) (cap:Nat) (w:World) (hv:RV w.cell? (An v.kind v.text v.int v.real v.flag a v.list.length cap) v) (hs:v.sized) (hc:v.count<=100000) :
   Calls Tryz.prog 18 #[.agg #[.int .i64 v.kind,.string v.text,.int .i64 v.int,.float .f64 v.real,.bool v.flag,.slice a v.list.length cap]] w fun e w' => e=.returned (.bool (En v))/\Below w.heap.size w w' := by
 obtain ⟨W1,hW1⟩:∃W1,W1=w.alloc (.cells #[.int .i64 v.kind,.string v.text,.int .i64 v.int,.float .f64 v.real,.bool v.flag,.slice a v.list.length cap] 26):=⟨_,rfl⟩
 have hb0:Below w.heap.size w W1:=by rw [hW1];exact (Below.refl _ _).alloc (Nat.le_refl _) _
 have hB:∀q u,#[.int .i64 v.kind,.string v.text,.int .i64 v.int,.float .f64 v.real,.bool v.flag,.slice a v.list.length cap][q]?=some u->W1.cell? ⟨w.heap.size,q,none⟩=some u:=fun q u h=>by rw [hW1,World.cell?_alloc_new];exact h
 have hv1:=hv.mono (Aa hb0)
 replace hW1:=Hd hW1
 replace hb0:=Hd hb0
 replace hB:=Hd hB
 replace hv1:=Hd hv1
 have hdc:=v.dep_count
 clear hv
 go_enter Tryz.func18,Tryz.ntmps18
 go_wp2_with fail
 rw [<-hW1.out]
 refine (all_any03 v a cap 0 W1 hv1.out hs hc (by omega) (by omega)).mono ?_
 rintro e w1 ⟨rfl,hb1⟩
 have hbw1:=hb0.out.trans (hb1.mono hb0.out.size)
 cases hal:v.allb 0 with
 | false=>
   have hr:En v=false:=by simp [En,hal]
   replace hr:=Hd hr;replace hal:=Hd hal;go_wp2;go_ret;exact ⟨by rw [hr.out];rfl,hbw1⟩
 | true=>
 replace hal:=Hd hal
 have g0:=Aa hb1 _ _ (hB.out 0 (.int .i64 v.kind) rfl)
 have g1:=Aa hb1 _ _ (hB.out 1 (.string v.text) rfl)
 have g2:=Aa hb1 _ _ (hB.out 2 (.int .i64 v.int) rfl)
 have g3:=Aa hb1 _ _ (hB.out 3 (.float .f64 v.real) rfl)
 have g4:=Aa hb1 _ _ (hB.out 4 (.bool v.flag) rfl)
 have g5:=Aa hb1 _ _ (hB.out 5 (.slice a v.list.length cap) rfl)
 go_wp2_with fail
 refine (rdepth_any v a cap w1 (hv1.out.mono (Aa hb1)) hc).mono ?_
 rintro e w2 ⟨rfl,hb2⟩
 have hb12:=hb1.trans (hb2.mono hb1.size)
 have hbw2:=hb0.out.trans (hb12.mono hb0.out.size)
 clear g0 g1 g2 g3 g4 g5
 by_cases hd:v.dep<=8
 · have g0:=Aa hb12 _ _ (hB.out 0 (.int .i64 v.kind) rfl)
   have g1:=Aa hb12 _ _ (hB.out 1 (.string v.text) rfl);have g2:=Aa hb12 _ _ (hB.out 2 (.int .i64 v.int) rfl);have g3:=Aa hb12 _ _ (hB.out 3 (.float .f64 v.real) rfl);have g4:=Aa hb12 _ _ (hB.out 4 (.bool v.flag) rfl);have g5:=Aa hb12 _ _ (hB.out 5 (.slice a v.list.length cap) rfl);go_wp2_with fail
   refine (rcount_any v a cap w2 (hv1.out.mono (Aa hb12)) hc).mono ?_;rintro e w3 ⟨rfl,hb3⟩;have hbw3:=hbw2.trans (hb3.mono hbw2.size);have hr:En v=decide (v.count<=1000):=by simp [En,hal.out,hd]
   replace hr:=Hd hr;go_wp2;go_ret;exact ⟨by rw [hr.out];simp;omega,hbw3⟩
 · have hr:En v=false:=by simp [En,hd]
   replace hr:=Hd hr;go_wp2;go_ret;exact ⟨by rw [hr.out];rfl,hbw2⟩
end Go.Proofs.YtagkgfniihiinaaGreatDoor
