/- ParseFloat and real.Parse at every text. -/
import Derived.Test.YtagkgfniihiinaaGreatDoorAtofT
import Derived.Test.YtagkgfniihiinaaGreatDoorRefA
import Derived.Test.YtagkgfniihiinaaGreatDoorJ22
set_option linter.all false
namespace Go.Proofs.YtagkgfniihiinaaGreatDoor
open Go.RowKit
set_option maxRecDepth 100000 in
set_option maxHeartbeats 1600000 in
theorem atof_over {s:ByteArray} {neg d:Bool} {L:List UInt8} {m:Nat} {x p:Int} (h:FTxt s neg d L m x) (h0:0<A3 L) (hx:expF d L m x=p) (hi:310<p) {w:World} (hP:Par w) :
   Calls Tryz.prog 164 #[.string s] w fun e w' => e=.returned (.tuple #[.float .f64 (sgB neg+9218868437227405312),.int .i64 (s.size:Int),.iface 155 (.int .i64 1)])/\w' = w:=by
 have hrf:=Cr h w
 obtain ⟨⟨c,body,rest,hs,hc,_⟩,hsz,_⟩:=h
 have hsp:=Dd hs hc hsz w
 rw [hx] at hrf
 have hopt:=hP.opt
 have hb:=B4 neg
 have hsz2:(s.size:Int)<=1000:=by omega
 have o1:bits .or .u64 9223372036854775808 9218868437227405312=18442240474082181120:=by decide +kernel
 have o2:bits .or .u64 0 9218868437227405312=9218868437227405312:=by decide +kernel
 have f1:∀w,(callFunc 211 #[.int .u64 18442240474082181120]).run Tryz.prog w=.ok (.value (.float .f64 18442240474082181120)) w:=fun w=>B8 18442240474082181120 w
 have f2:∀w,(callFunc 211 #[.int .u64 9218868437227405312]).run Tryz.prog w=.ok (.value (.float .f64 9218868437227405312)) w:=fun w=>B8 9218868437227405312 w
 obtain ⟨tr,htr⟩:∃tr,tr=Bf L:=⟨_,rfl⟩
 rw [<-htr] at hrf
 obtain ⟨mt,hmt⟩:∃mt,A3 L=mt:=⟨_,rfl⟩
 rw [hmt] at hrf h0
 have hm0:((mt:Int) == 0)=false:=by rw [beq_eq_false_iff_ne];omega
 replace hrf:=Hd hrf
 replace hsp:=Hd hsp
 replace hb:=Hd hb
 clear hx hs hc htr hmt
 cases neg
 all_goals
   go_enter Tryz.func164,Tryz.ntmps164
   go_wp2_with fail
   refine (hsp.out).mono ?_
   rintro e w' ⟨rfl,hww⟩
   obtain rfl:=hww.symm
   clear hww
   go_wp2_with fail
   refine (hrf.out).mono ?_
   rintro e w' ⟨rfl,hww⟩
   obtain rfl:=hww.symm
   clear hww
   go_wp2_with fail
   refine (hb.out _).mono ?_
   rintro e w' ⟨rfl,hww⟩
   obtain rfl:=hww.symm
   clear hww
   go_wp2
 · exact bodyPost_ret (v:=.tuple #[.float .f64 9218868437227405312,.int .i64 (s.size:Int),.iface 155 (.int .i64 1)]) (by simp [results,Tryz.results164,go_sem]) rfl ⟨rfl,rfl⟩
 · exact bodyPost_ret (v:=.tuple #[.float .f64 18442240474082181120,.int .i64 (s.size:Int),.iface 155 (.int .i64 1)]) (by simp [results,Tryz.results164,go_sem]) rfl ⟨rfl,rfl⟩
set_option maxRecDepth 100000 in
set_option maxHeartbeats 1600000 in
theorem atof_under {s:ByteArray} {neg d:Bool} {L:List UInt8} {m:Nat} {x p:Int} (h:FTxt s neg d L m x) (h0:0<A3 L) (hx:expF d L m x=p) (hi:p < -345) {w:World} (hP:Par w) :
   Calls Tryz.prog 164 #[.string s] w fun e w' => e=.returned (.tuple #[.float .f64 (sgB neg+0),.int .i64 (s.size:Int),.nilIface])/\w' = w:=by
 have hrf:=Cr h w
 obtain ⟨⟨c,body,rest,hs,hc,_⟩,hsz,_⟩:=h
 have hsp:=Dd hs hc hsz w
 rw [hx] at hrf
 have hopt:=hP.opt
 have hb:=B4 neg
 have hsz2:(s.size:Int)<=1000:=by omega
 have o1:bits .or .u64 9223372036854775808 0=9223372036854775808:=by decide +kernel
 have o2:bits .or .u64 0 0=0:=by decide +kernel
 have f1:∀w,(callFunc 211 #[.int .u64 9223372036854775808]).run Tryz.prog w=.ok (.value (.float .f64 9223372036854775808)) w:=fun w=>B8 9223372036854775808 w
 have f2:∀w,(callFunc 211 #[.int .u64 0]).run Tryz.prog w=.ok (.value (.float .f64 0)) w:=fun w=>B8 0 w
 obtain ⟨tr,htr⟩:∃tr,tr=Bf L:=⟨_,rfl⟩
 rw [<-htr] at hrf
 obtain ⟨mt,hmt⟩:∃mt,A3 L=mt:=⟨_,rfl⟩
 rw [hmt] at hrf h0
 have hm0:((mt:Int) == 0)=false:=by rw [beq_eq_false_iff_ne];omega
 have hno:¬(310:Int)<p:=by omega
 replace hrf:=Hd hrf
 replace hsp:=Hd hsp
 replace hb:=Hd hb
 clear hx hs hc htr hmt
 cases neg
 all_goals
   go_enter Tryz.func164,Tryz.ntmps164
   go_wp2_with fail
   refine (hsp.out).mono ?_
   rintro e w' ⟨rfl,hww⟩
   obtain rfl:=hww.symm
   clear hww
   go_wp2_with fail
   refine (hrf.out).mono ?_
   rintro e w' ⟨rfl,hww⟩
   obtain rfl:=hww.symm
   clear hww
   go_wp2_with fail
   refine (hb.out _).mono ?_
   rintro e w' ⟨rfl,hww⟩
   obtain rfl:=hww.symm
   clear hww
   go_wp2
 · exact bodyPost_ret (v:=.tuple #[.float .f64 0,.int .i64 (s.size:Int),.nilIface]) (by simp [results,Tryz.results164,go_sem]) rfl ⟨rfl,rfl⟩
 · exact bodyPost_ret (v:=.tuple #[.float .f64 9223372036854775808,.int .i64 (s.size:Int),.nilIface]) (by simp [results,Tryz.results164,go_sem]) rfl ⟨rfl,rfl⟩
def numR (d:Bool) (L:List UInt8) (m:Nat) (x:Int):Nat:=
 if A3 L=0 then 0
 else if 310<expF d L m x then 9218868437227405312
 else if expF d L m x < -345 then 0
 else if Bf L=true then longR d L m x
 else Bt (A3 L) (expF d L m x)
structure Lay (w:World):Prop where
 par:Par w
 pows:Pows w
 slow:Slow w
 rng:Rng w
theorem Lay.below {w w' : World} (h:Lay w) (hb:Below w.heap.size w w'):Lay w' := ⟨h.par.below hb,h.pows.below hb h.pows.lt,h.slow.below hb,h.rng.below hb⟩
theorem atof_all {s:ByteArray} {neg d:Bool} {L:List UInt8} {m:Nat} {x:Int} (h:FTxt s neg d L m x) (hz:s.size<=700) {w:World} (hY:Lay w) :
   Calls Tryz.prog 164 #[.string s] w fun e w' => e=.returned (.tuple #[.float .f64 (sgB neg+numR d L m x),.int .i64 (s.size:Int),Bc (numR d L m x)])/\Below w.heap.size w w' := by
 have hm19:=mantF_lt19 (txt_dig h).1
 have hr0:Bc 0=.nilIface:=if_neg (by decide)
 have hri:Bc 9218868437227405312=.iface 155 (.int .i64 1):=if_pos rfl
 by_cases h0:A3 L=0
 · have hn:numR d L m x=0:=by unfold numR;rw [if_pos h0]
   rw [hn,hr0];refine (atof_zero h h0 hY.par).mono fun e w' ⟨h1,h2⟩=>⟨?_,by rw [h2];exact Below.refl _ _⟩;rw [h1];cases neg<;>rfl
 by_cases hi:310<expF d L m x
 · have hn:numR d L m x=9218868437227405312:=by unfold numR;rw [if_neg h0,if_pos hi]
   rw [hn,hri];exact (atof_over h (by omega) rfl hi hY.par).mono fun e w' ⟨h1,h2⟩=>⟨h1,by rw [h2];exact Below.refl _ _⟩
 by_cases hl:expF d L m x < -345
 · have hn:numR d L m x=0:=by unfold numR;rw [if_neg h0,if_neg hi,if_pos hl]
   rw [hn,hr0];exact (atof_under h (by omega) rfl hl hY.par).mono fun e w' ⟨h1,h2⟩=>⟨h1,by rw [h2];exact Below.refl _ _⟩
 cases ht:Bf L with
 | true=>
   have hn:numR d L m x=longR d L m x:=by unfold numR;rw [if_neg h0,if_neg hi,if_neg hl,if_pos ht]
   rw [hn];exact atof_trunc h hz (by omega) hm19 ht rfl (by omega) (by omega) hY.par hY.pows hY.slow
 | false=>
   have hn:numR d L m x=Bt (A3 L) (expF d L m x):=by unfold numR;rw [if_neg h0,if_neg hi,if_neg hl,if_neg (by rw [ht];decide)]
   obtain ⟨R,hR1,hR2⟩:=Fi (d:=A3 L) (by omega) (by omega) (p:=expF d L m x) (by omega) (by omega);rw [hn,hR2];refine (atof_mid h (by omega) (by omega) ht rfl (by omega) (by omega) hY.par hY.pows).mono ?_;rintro e w' ⟨R', hI,he,hb⟩;have hRR:R' = R:=hI.uniq (Nat.pow_pos (by decide)) hR1;rw [hRR] at he;exact ⟨he,hb⟩
theorem numR_le {s:ByteArray} {neg d:Bool} {L:List UInt8} {m:Nat} {x:Int} (h:FTxt s neg d L m x) (hz:s.size<=700):numR d L m x<=9218868437227405312:=by
 have hm19:=mantF_lt19 (txt_dig h).1;have hp:∀mt p,0<mt->mt<18446744073709551616->-345<=p->p<=310->Bt mt p<=9218868437227405312:=fun mt p h1 h2 h3 h4=>by
   obtain ⟨R,_,hR⟩:=Fi h1 h2 (p:=p) (by omega) (by omega);rw [hR];exact Nat.min_le_right _ _
 unfold numR;split
 · omega
 · rename_i h0
   split
   · omega
   · split
     · omega
     · split
       · rename_i ht
         unfold longR;split
         · exact hp _ _ (by omega) (by omega) (by omega) (by omega)
         · exact (fb_lt _ (.inr (expF_low h hz h0 ht).1)).1
       · exact hp _ _ (by omega) (by omega) (by omega) (by omega)
end Go.Proofs.YtagkgfniihiinaaGreatDoor
