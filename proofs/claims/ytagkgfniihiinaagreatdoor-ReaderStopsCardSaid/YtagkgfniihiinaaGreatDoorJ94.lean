/- ParseFloat and real.Parse at every text. -/
import Derived.Test.YtagkgfniihiinaaGreatDoorAtofT
import Derived.Test.YtagkgfniihiinaaGreatDoorRefA
set_option linter.all false
set_option maxHeartbeats 3200000
set_option maxRecDepth 100000
namespace Go.Proofs.YtagkgfniihiinaaGreatDoor
open Go.RowKit
theorem atof_over {s:ByteArray} {neg d:Bool} {L:List UInt8} {m:Nat} {x p:Int} (h:FTxt s neg d L m x) (h0:0<Av L) (hx:expF d L m x=p) (hi:310<p) {w:World} (hP:Par w) :
  Calls Tryz.prog 164 #[.string s] w fun e w' => e=.returned (.tuple #[.float .f64 (sgB neg+9218868437227405312),.int .i64 (s.size:Int),.iface 155 (.int .i64 1)])/\w' = w:=by
 have b:=C7 h w;obtain ⟨⟨c,body,rest,hs,hc,_⟩,g,_⟩:=h;have f:=D8 hs hc g w;rw [hx] at b;have hopt:=hP.opt;have hb:=Cj neg;have hsz2:(s.size:Int)<=1000:=by omega
 have o1:bits .or .u64 9223372036854775808 9218868437227405312=18442240474082181120:=by decide +kernel
 have o2:bits .or .u64 0 9218868437227405312=9218868437227405312:=by decide +kernel
 have f1:∀w,(callFunc 211 #[.int .u64 18442240474082181120]).run Tryz.prog w=.ok (.value (.float .f64 18442240474082181120)) w:=fun w=>Cl 18442240474082181120 w;have f2:∀w,(callFunc 211 #[.int .u64 9218868437227405312]).run Tryz.prog w=.ok (.value (.float .f64 9218868437227405312)) w:=fun w=>Cl 9218868437227405312 w;obtain ⟨tr,htr⟩:∃tr,tr=Bd L:=⟨_,rfl⟩;rw [<-htr] at b;obtain ⟨mt,hmt⟩:∃mt,Av L=mt:=⟨_,rfl⟩;rw [hmt] at b h0;have hm0:((mt:Int) == 0)=false:=by rw [beq_eq_false_iff_ne];omega
 replace b:=Hd b;replace f:=Hd f;replace hb:=Hd hb;clear hx hs hc htr hmt;cases neg
 all_goals
  go_enter Tryz.func164,Tryz.ntmps164
  go_wp2_with fail
  refine (f.out).mono ?_
  rintro e w' ⟨rfl,a⟩
  obtain rfl:=a.symm
  clear a
  go_wp2_with fail
  refine (b.out).mono ?_
  rintro e w' ⟨rfl,a⟩
  obtain rfl:=a.symm
  clear a
  go_wp2_with fail
  refine (hb.out _).mono ?_
  rintro e w' ⟨rfl,a⟩
  obtain rfl:=a.symm
  clear a
  go_wp2
 ·exact bodyPost_ret (v:=.tuple #[.float .f64 9218868437227405312,.int .i64 (s.size:Int),.iface 155 (.int .i64 1)]) (by simp [results,Tryz.results164,go_sem]) rfl ⟨rfl,rfl⟩
 ·exact bodyPost_ret (v:=.tuple #[.float .f64 18442240474082181120,.int .i64 (s.size:Int),.iface 155 (.int .i64 1)]) (by simp [results,Tryz.results164,go_sem]) rfl ⟨rfl,rfl⟩
theorem atof_under {s:ByteArray} {neg d:Bool} {L:List UInt8} {m:Nat} {x p:Int} (h:FTxt s neg d L m x) (h0:0<Av L) (hx:expF d L m x=p) (hi:p < -345) {w:World} (hP:Par w) :
  Calls Tryz.prog 164 #[.string s] w fun e w' => e=.returned (.tuple #[.float .f64 (sgB neg+0),.int .i64 (s.size:Int),.nilIface])/\w' = w:=by
 have b:=C7 h w;obtain ⟨⟨c,body,rest,hs,hc,_⟩,g,_⟩:=h;have f:=D8 hs hc g w;rw [hx] at b;have hopt:=hP.opt;have hb:=Cj neg;have hsz2:(s.size:Int)<=1000:=by omega
 have o1:bits .or .u64 9223372036854775808 0=9223372036854775808:=by decide +kernel
 have o2:bits .or .u64 0 0=0:=by decide +kernel
 have f1:∀w,(callFunc 211 #[.int .u64 9223372036854775808]).run Tryz.prog w=.ok (.value (.float .f64 9223372036854775808)) w:=fun w=>Cl 9223372036854775808 w;have f2:∀w,(callFunc 211 #[.int .u64 0]).run Tryz.prog w=.ok (.value (.float .f64 0)) w:=fun w=>Cl 0 w;obtain ⟨tr,htr⟩:∃tr,tr=Bd L:=⟨_,rfl⟩;rw [<-htr] at b;obtain ⟨mt,hmt⟩:∃mt,Av L=mt:=⟨_,rfl⟩;rw [hmt] at b h0;have hm0:((mt:Int) == 0)=false:=by rw [beq_eq_false_iff_ne];omega
 have hno:¬(310:Int)<p:=by omega
 replace b:=Hd b;replace f:=Hd f;replace hb:=Hd hb;clear hx hs hc htr hmt;cases neg
 all_goals
  go_enter Tryz.func164,Tryz.ntmps164
  go_wp2_with fail
  refine (f.out).mono ?_
  rintro e w' ⟨rfl,a⟩
  obtain rfl:=a.symm
  clear a
  go_wp2_with fail
  refine (b.out).mono ?_
  rintro e w' ⟨rfl,a⟩
  obtain rfl:=a.symm
  clear a
  go_wp2_with fail
  refine (hb.out _).mono ?_
  rintro e w' ⟨rfl,a⟩
  obtain rfl:=a.symm
  clear a
  go_wp2
 ·exact bodyPost_ret (v:=.tuple #[.float .f64 0,.int .i64 (s.size:Int),.nilIface]) (by simp [results,Tryz.results164,go_sem]) rfl ⟨rfl,rfl⟩
 ·exact bodyPost_ret (v:=.tuple #[.float .f64 9223372036854775808,.int .i64 (s.size:Int),.nilIface]) (by simp [results,Tryz.results164,go_sem]) rfl ⟨rfl,rfl⟩
def numR (d:Bool) (L:List UInt8) (m:Nat) (x:Int):Nat:=
 if Av L=0 then 0
 else if 310<expF d L m x then 9218868437227405312
 else if expF d L m x < -345 then 0
 else if Bd L=true then longR d L m x
 else B8 (Av L) (expF d L m x)
structure Lay (w:World):Prop where
 par:Par w
 pows:Pows w
 slow:Slow w
 rng:Rng w
theorem Lay.below {w w' : World} (h:Lay w) (hb:Below w.heap.size w w'):Lay w' := ⟨h.par.below hb,h.pows.below hb h.pows.lt,h.slow.below hb,h.rng.below hb⟩
theorem atof_all {s:ByteArray} {neg d:Bool} {L:List UInt8} {m:Nat} {x:Int} (h:FTxt s neg d L m x) (hz:s.size<=700) {w:World} (hY:Lay w) :
  Calls Tryz.prog 164 #[.string s] w fun e w' => e=.returned (.tuple #[.float .f64 (sgB neg+numR d L m x),.int .i64 (s.size:Int),Bn (numR d L m x)])/\Below w.heap.size w w' := by
 have a:=mantF_lt19 (txt_dig h).1;have b:Bn 0=.nilIface:=if_neg (by decide);have c:Bn 9218868437227405312=.iface 155 (.int .i64 1):=if_pos rfl;by_cases h0:Av L=0
 ·have hn:numR d L m x=0:=by unfold numR;rw [if_pos h0]
  rw [hn,b];refine (atof_zero h h0 hY.par).mono fun e w' ⟨h1,h2⟩=>⟨?_,by rw [h2];exact Below.refl _ _⟩;rw [h1];cases neg<;>rfl
 by_cases hi:310<expF d L m x
 ·have hn:numR d L m x=9218868437227405312:=by unfold numR;rw [if_neg h0,if_pos hi]
  rw [hn,c];exact (atof_over h (by omega) rfl hi hY.par).mono fun e w' ⟨h1,h2⟩=>⟨h1,by rw [h2];exact Below.refl _ _⟩
 by_cases hl:expF d L m x < -345
 ·have hn:numR d L m x=0:=by unfold numR;rw [if_neg h0,if_neg hi,if_pos hl]
  rw [hn,b];exact (atof_under h (by omega) rfl hl hY.par).mono fun e w' ⟨h1,h2⟩=>⟨h1,by rw [h2];exact Below.refl _ _⟩
 cases ht:Bd L with
 | true=>
  have hn:numR d L m x=longR d L m x:=by unfold numR;rw [if_neg h0,if_neg hi,if_neg hl,if_pos ht]
  rw [hn];exact atof_trunc h hz (by omega) a ht rfl (by omega) (by omega) hY.par hY.pows hY.slow
 | false=>
  have hn:numR d L m x=B8 (Av L) (expF d L m x):=by unfold numR;rw [if_neg h0,if_neg hi,if_neg hl,if_neg (by rw [ht];decide)]
  obtain ⟨R,g,i⟩:=Fs (d:=Av L) (by omega) (by omega) (p:=expF d L m x) (by omega) (by omega);rw [hn,i];refine (atof_mid h (by omega) (by omega) ht rfl (by omega) (by omega) hY.par hY.pows).mono ?_;rintro e w' ⟨R', hI,he,hb⟩;have f:R' = R:=hI.uniq (Nat.pow_pos (by decide)) g;rw [f] at he;exact ⟨he,hb⟩
theorem numR_le {s:ByteArray} {neg d:Bool} {L:List UInt8} {m:Nat} {x:Int} (h:FTxt s neg d L m x) (hz:s.size<=700):numR d L m x<=9218868437227405312:=by
 have hm19:=mantF_lt19 (txt_dig h).1;have hp:∀mt p,0<mt->mt<18446744073709551616->-345<=p->p<=310->B8 mt p<=9218868437227405312:=fun mt p h1 h2 h3 h4=>by
  obtain ⟨R,_,hR⟩:=Fs h1 h2 (p:=p) (by omega) (by omega);rw [hR];exact Nat.min_le_right _ _
 unfold numR;split
 ·omega
 ·rename_i h0
  split
  ·omega
  ·split
   ·omega
   ·split
    ·rename_i ht
     unfold longR;split
     ·exact hp _ _ (by omega) (by omega) (by omega) (by omega)
     ·exact (fb_lt _ (.inr (expF_low h hz h0 ht).1)).1
    ·exact hp _ _ (by omega) (by omega) (by omega) (by omega)
structure Plain (t:ByteArray):Prop where
 k1:(t.toList == [105,110,102])=false
 k2:(t.toList == [45,105,110,102])=false
 k3:(t.toList == [110,97,110])=false
inductive ParO:ByteArray->Option Nat->Prop
 | inf:ParO ⟨#[105,110,102]⟩ (some 9218868437227405312)
 | minf:ParO ⟨#[45,105,110,102]⟩ (some 18442240474082181120)
 | nan:ParO ⟨#[110,97,110]⟩ (some 9221120237041090561)
 | long {t:ByteArray}:Plain t->64<t.size->ParO t none
 | odd {t:ByteArray}:Plain t->t.size<=64->Bc t.data.toList=false->ParO t none
 | num {t:ByteArray} {neg d:Bool} {L:List UInt8} {m:Nat} {x:Int}:Plain t->t.size<=64->Bc t.data.toList=true->FTxt t neg d L m x->numR d L m x≠9218868437227405312->ParO t (some (sgB neg+numR d L m x))
 | far {t:ByteArray} {neg d:Bool} {L:List UInt8} {m:Nat} {x:Int}:Plain t->t.size<=64->Bc t.data.toList=true->FTxt t neg d L m x->numR d L m x=9218868437227405312->ParO t none
theorem txt_is {t:ByteArray} {l:List UInt8} (h:(t.toList == l)=true):t=⟨l.toArray⟩:=by
 have h1:=eq_of_beq h;rw [ByteArray.toList_eq] at h1;exact ByteArray.ext (by rw [<-h1])
theorem parO_ex (t:ByteArray):∃o,ParO t o:=by
 cases h1:(t.toList == [105,110,102]) with
 | true=>rw [txt_is h1];exact ⟨_,.inf⟩
 | false=>
  cases h2:(t.toList == [45,105,110,102]) with
  | true=>rw [txt_is h2];exact ⟨_,.minf⟩
  | false=>
   cases h3:(t.toList == [110,97,110]) with
   | true=>rw [txt_is h3];exact ⟨_,.nan⟩
   | false=>
    have hp:Plain t:=⟨h1,h2,h3⟩;by_cases hz:t.size<=64
    ·cases hr:Bc t.data.toList with
     | false=>exact ⟨_,.odd hp hz hr⟩
     | true=>
      obtain ⟨neg,d,L,m,x,hF,_⟩:=right_txt hr (by omega);by_cases hi:numR d L m x=9218868437227405312
      ·exact ⟨_,.far hp hz hr hF hi⟩
      ·exact ⟨_,.num hp hz hr hF hi⟩
    ·exact ⟨_,.long hp (by omega)⟩
theorem parO_lt {t:ByteArray} {o:Option Nat} (h:ParO t o):∀r,o=some r->r<18446744073709551616:=by
 intro r hr;cases h with
 | inf=>cases hr;decide
 | minf=>cases hr;decide
 | nan=>cases hr;decide
 | long=>cases hr
 | odd=>cases hr
 | @num _ neg d L m x hp hz hrt hF hi=>
  cases hr
  have h1:=numR_le hF (by omega);cases neg<;>simp [sgB]<;>omega
 | far=>cases hr
theorem sparse_all {s:ByteArray} {neg d:Bool} {L:List UInt8} {m:Nat} {x:Int} (h:FTxt s neg d L m x) (hz:s.size<=700) {w:World} (hY:Lay w) :
  Calls Tryz.prog 85 #[.string s,.int .i64 64] w fun e w' => ∃er,e=.returned (.tuple #[.float .f64 (sgB neg+numR d L m x),er])/\((numR d L m x≠9218868437227405312/\er=.nilIface)\/(numR d L m x=9218868437227405312/\∃N,er=.iface 156 (.pointer (some ⟨N,0,none⟩))))/\Below w.heap.size w w' :=
 sparse_anyB (by omega) hY.rng (atof_all h hz hY)
theorem real_long {t:ByteArray} (hp:Plain t) (hz:64<t.size) (w:World):Calls Tryz.prog 90 #[.string t] w fun e w' => e=.returned (.tuple #[.float .f64 0,.int .i64 21])/\Below w.heap.size w w' := by
 obtain ⟨k1,k2,k3⟩:=hp;have hsz:(64:Int)<(t.size:Int):=by omega
 go_enter Tryz.func90,Tryz.ntmps90
 go_wp2
 go_ret2
 exact ⟨rfl,Below.refl _ _⟩
theorem real_odd {t:ByteArray} (hp:Plain t) (hz:t.size<=64) (hr:Bc t.data.toList=false) (w:World):Calls Tryz.prog 90 #[.string t] w fun e w' => e=.returned (.tuple #[.float .f64 0,.int .i64 21])/\Below w.heap.size w w' := by
 obtain ⟨k1,k2,k3⟩:=hp;have a:=F3 (s:=t) (by omega) w;rw [hr] at a;have hsz:¬(64:Int)<(t.size:Int):=by omega
 replace a:=Hd a;clear hr
 go_enter Tryz.func90,Tryz.ntmps90
 go_wp2_with fail
 refine a.out.mono ?_;rintro e w1 ⟨rfl,hb⟩;go_wp2
 go_ret2
 exact ⟨rfl,hb⟩
theorem real_far {t:ByteArray} {r:Nat} {N' : Nat->Prop} (hp:Plain t) (hz:t.size<=64) (hr:Bc t.data.toList=true) {w:World}
  (hs:∀w', Below w.heap.size w w' -> Calls Tryz.prog 85 #[.string t,.int .i64 64] w' fun e w'' => ∃N,e=.returned (.tuple #[.float .f64 r,.iface 156 (.pointer (some ⟨N,0,none⟩))])/\Below w'.heap.size w' w'') :
  Calls Tryz.prog 90 #[.string t] w fun e w' => e=.returned (.tuple #[.float .f64 0,.int .i64 21])/\Below w.heap.size w w' := by
 obtain ⟨k1,k2,k3⟩:=hp;have a:=F3 (s:=t) (by omega) w;rw [hr] at a;have hsz:¬(64:Int)<(t.size:Int):=by omega
 replace a:=Hd a;replace hs:=Hd hs;clear hr
 go_enter Tryz.func90,Tryz.ntmps90
 go_wp2_with fail
 refine a.out.mono ?_;rintro e w1 ⟨rfl,hb⟩;have c:=Hd (hs.out w1 hb);go_wp2_with fail
 refine c.out.mono ?_;rintro e w2 ⟨N,rfl,d⟩;have b:=hb.trans (d.mono hb.size);go_wp2
 go_ret2
 exact ⟨rfl,b⟩
def ParA (o:Option Nat):Ending:=match o with
 | some r=>.returned (.tuple #[.float .f64 r,.int .i64 0])
 | none=>.returned (.tuple #[.float .f64 0,.int .i64 21])
theorem real_all {t:ByteArray} {o:Option Nat} (h:ParO t o) {w:World} (hY:Lay w):Calls Tryz.prog 90 #[.string t] w fun e w' => e=ParA o/\Below w.heap.size w w' := by
 cases h with
 | inf=>exact (parse_inf w).mono fun e w' ⟨h1,h2⟩=>⟨h1,by rw [h2];exact Below.refl _ _⟩
 | minf=>exact (parse_minf w).mono fun e w' ⟨h1,h2⟩=>⟨h1,by rw [h2];exact Below.refl _ _⟩
 | nan=>exact (parse_nan w).mono fun e w' ⟨h1,h2⟩=>⟨h1,by rw [h2];exact Below.refl _ _⟩
 | long hp hz=>exact real_long hp hz w
 | odd hp hz hr=>exact real_odd hp hz hr w
 | @num _ neg d L m x hp hz hr hF hi=>
  obtain ⟨_,_,_,_,_,_,c,l,h1,hc⟩:=right_txt hr (by omega);exact parse_numB h1 hc hz hr fun w' hb=>(sparse_all hF (by omega) (hY.below hb)).mono fun e w'' ⟨er,he,hor,hb2⟩=>by
   rcases hor with ⟨_,h9⟩ | ⟨h9,_⟩
   ·subst h9;exact ⟨he,hb2⟩
   ·exact absurd h9 hi
 | @far _ neg d L m x hp hz hr hF hi=>
  refine real_far (r:=sgB neg+numR d L m x) (N' := fun _=>True) hp hz hr fun w' hb=>(sparse_all hF (by omega) (hY.below hb)).mono fun e w'' ⟨er,he,hor,hb2⟩=>?_;rcases hor with ⟨h9,_⟩ | ⟨_,N,h9⟩
  ·exact absurd hi h9
  ·subst h9;exact ⟨N,he,hb2⟩
theorem canon_fin {neg:Bool} {R:Nat} (h:R<=9218868437227405312):Cp (sgB neg+R)=sgB neg+R:=by
 have:nanF (sgB neg+R)=false:=by cases neg<;>exact decide_eq_false (by unfold sgB;simp;omega)
 unfold Cp;rw [this];rfl
theorem ref_bad {t:ByteArray} (hp:Plain t) (hz:64<t.size\/(t.size<=64/\Bc t.data.toList=false)) (w:World):Calls Tryz.prog 92 #[.string t] w fun e w' => e=.returned (.tuple #[.float .f64 0,.int .i64 21])/\Below w.heap.size w w' := by
 obtain ⟨k1,k2,k3⟩:=hp;rcases hz with hz | ⟨hz,hr⟩
 ·have c:(64:Int)<(t.size:Int):=by omega
  go_enter Tryz.func92,Tryz.ntmps92
  go_wp2
  go_ret2
  exact ⟨rfl,Below.refl _ _⟩
 ·have a:=rform_any (s:=t) (by omega) w
  rw [form_right,hr] at a;have c:¬(64:Int)<(t.size:Int):=by omega
  replace a:=Hd a;clear hr
  go_enter Tryz.func92,Tryz.ntmps92
  go_wp2_with fail
  refine (a.out).mono ?_;rintro e w' ⟨rfl,b⟩;obtain rfl:=b.symm;clear b;go_wp2
  go_ret2
  exact ⟨rfl,Below.refl _ _⟩
theorem ref_num {t:ByteArray} {neg d:Bool} {L:List UInt8} {m:Nat} {x:Int} (hp:Plain t) (hz:t.size<=64) (hr:Bc t.data.toList=true) (hF:FTxt t neg d L m x) {w:World} (hY:Lay w) :
  Calls Tryz.prog 92 #[.string t] w fun e w' => e=ParA (if numR d L m x=9218868437227405312 then none else some (sgB neg+numR d L m x))/\Below w.heap.size w w' := by
 obtain ⟨k1,k2,k3⟩:=hp;have f:=rform_any (s:=t) (by omega) w;rw [form_right,hr] at f;have hsz:¬(64:Int)<(t.size:Int):=by omega
 have c:=sparse_all hF (by omega) hY;have h:=numR_le hF (by omega);obtain ⟨R,hR⟩:∃R,R=numR d L m x:=⟨_,rfl⟩;rw [<-hR] at c h ⊢;obtain ⟨V,hV⟩:∃V,V=sgB neg+R:=⟨_,rfl⟩;have i:V<18446744073709551616:=by rw [hV];cases neg<;>simp [sgB]<;>omega
 have b:=refBits_any i;have j:Cp V=V:=by rw [hV];exact canon_fin h
 rw [j] at b;rw [<-hV] at c ⊢;have g:(R=9218868437227405312/\((V:Int)=9218868437227405312\/(((V:Int) == 9218868437227405312)=false/\(V:Int)=18442240474082181120)))\/(R≠9218868437227405312/\((V:Int) == 9218868437227405312)=false/\((V:Int) == 18442240474082181120)=false):=by
  by_cases hi:R=9218868437227405312
  ·left
   refine ⟨hi,?_⟩;cases neg
   ·left;rw [hV,hi];rfl
   ·right;rw [hV,hi];exact ⟨rfl,rfl⟩
  ·right
   refine ⟨hi,?_,?_⟩
   ·rw [beq_eq_false_iff_ne,hV]
    cases neg<;>simp [sgB]<;>omega
   ·rw [beq_eq_false_iff_ne,hV]
    cases neg<;>simp [sgB]<;>omega
 replace f:=Hd f;replace c:=Hd c;replace b:=Hd b;replace g:=Hd g;clear hr hF hY hR hV j h i;rcases g.out with ⟨hi,hv | ⟨k,hv⟩⟩ | ⟨hi,k,hv1⟩
 ·rw [if_pos hi]
  replace hi:=Hd hi
  go_enter Tryz.func92,Tryz.ntmps92
  go_wp2_with fail
  refine (f.out).mono ?_;rintro e w' ⟨rfl,a⟩;obtain rfl:=a.symm;clear a;go_wp2_with fail
  refine c.out.mono ?_;rintro e w1 ⟨er,rfl,_,hb⟩;go_wp2_with fail
  refine (b.out _).mono ?_;rintro e w' ⟨rfl,a⟩;obtain rfl:=a.symm;clear a;go_wp2
  go_ret2
  exact ⟨rfl,hb⟩
 ·rw [if_pos hi]
  replace hi:=Hd hi
  go_enter Tryz.func92,Tryz.ntmps92
  go_wp2_with fail
  refine (f.out).mono ?_;rintro e w' ⟨rfl,a⟩;obtain rfl:=a.symm;clear a;go_wp2_with fail
  refine c.out.mono ?_;rintro e w1 ⟨er,rfl,_,hb⟩;go_wp2_with fail
  refine (b.out _).mono ?_;rintro e w' ⟨rfl,a⟩;obtain rfl:=a.symm;clear a;go_wp2_with fail
  refine (b.out _).mono ?_;rintro e w' ⟨rfl,a⟩;obtain rfl:=a.symm;clear a;go_wp2
  go_ret2
  exact ⟨rfl,hb⟩
 ·rw [if_neg hi]
  replace hi:=Hd hi
  go_enter Tryz.func92,Tryz.ntmps92
  go_wp2_with fail
  refine (f.out).mono ?_;rintro e w' ⟨rfl,a⟩;obtain rfl:=a.symm;clear a;go_wp2_with fail
  refine c.out.mono ?_;rintro e w1 ⟨er,rfl,_,hb⟩;go_wp2_with fail
  refine (b.out _).mono ?_;rintro e w' ⟨rfl,a⟩;obtain rfl:=a.symm;clear a;go_wp2_with fail
  refine (b.out _).mono ?_;rintro e w' ⟨rfl,a⟩;obtain rfl:=a.symm;clear a;go_wp2
  go_ret2
  exact ⟨rfl,hb⟩
theorem ref_inf (w:World):Calls Tryz.prog 92 #[.string ⟨#[105,110,102]⟩] w fun e w' => e=ParA (some 9218868437227405312)/\Below w.heap.size w w' := by
 have f1:∀w,(callFunc 57 #[.int .u64 9218868437227405312]).run Tryz.prog w=.ok (.value (.float .f64 9218868437227405312)) w:=fun w=>Ew 9218868437227405312 w
 go_enter Tryz.func92,Tryz.ntmps92
 go_wp2
 go_ret2
 exact ⟨rfl,Below.refl _ _⟩
theorem ref_minf (w:World):Calls Tryz.prog 92 #[.string ⟨#[45,105,110,102]⟩] w fun e w' => e=ParA (some 18442240474082181120)/\Below w.heap.size w w' := by
 have f1:∀w,(callFunc 57 #[.int .u64 18442240474082181120]).run Tryz.prog w=.ok (.value (.float .f64 18442240474082181120)) w:=fun w=>Ew 18442240474082181120 w
 go_enter Tryz.func92,Tryz.ntmps92
 go_wp2
 go_ret2
 exact ⟨rfl,Below.refl _ _⟩
theorem ref_nan (w:World):Calls Tryz.prog 92 #[.string ⟨#[110,97,110]⟩] w fun e w' => e=ParA (some 9221120237041090561)/\Below w.heap.size w w' := by
 have f1:∀w,(callFunc 57 #[.int .u64 9221120237041090561]).run Tryz.prog w=.ok (.value (.float .f64 9221120237041090561)) w:=fun w=>Ew 9221120237041090561 w
 go_enter Tryz.func92,Tryz.ntmps92
 go_wp2
 go_ret2
 exact ⟨rfl,Below.refl _ _⟩
theorem ref_all {t:ByteArray} {o:Option Nat} (h:ParO t o) {w:World} (hY:Lay w):Calls Tryz.prog 92 #[.string t] w fun e w' => e=ParA o/\Below w.heap.size w w' := by
 cases h with
 | inf=>exact ref_inf w
 | minf=>exact ref_minf w
 | nan=>exact ref_nan w
 | long hp hz=>exact ref_bad hp (.inl hz) w
 | odd hp hz hr=>exact ref_bad hp (.inr ⟨hz,hr⟩) w
 | num hp hz hr hF hi=>
  have h1:=ref_num hp hz hr hF hY;rw [if_neg hi] at h1;exact h1
 | far hp hz hr hF hi=>
  have h1:=ref_num hp hz hr hF hY;rw [if_pos hi] at h1;exact h1
