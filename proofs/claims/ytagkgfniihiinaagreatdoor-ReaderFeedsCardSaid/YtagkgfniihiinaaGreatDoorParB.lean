/- real.Parse and the document's Parse at every text: the same. -/
import Derived.Test.YtagkgfniihiinaaGreatDoorParA
import Derived.Test.YtagkgfniihiinaaGreatDoorFormW
import Derived.Test.YtagkgfniihiinaaGreatDoorJ84
set_option linter.all false
namespace Go.Proofs.YtagkgfniihiinaaGreatDoor
open Go.RowKit
structure Plain (t:ByteArray):Prop where
 k1:(t.toList == [105,110,102])=false
 k2:(t.toList == [45,105,110,102])=false
 k3:(t.toList == [110,97,110])=false
inductive ParO:ByteArray->Option Nat->Prop
 | inf:ParO ⟨#[105,110,102]⟩ (some 9218868437227405312)
 | minf:ParO ⟨#[45,105,110,102]⟩ (some 18442240474082181120)
 | nan:ParO ⟨#[110,97,110]⟩ (some 9221120237041090561)
 | long {t:ByteArray}:Plain t->64<t.size->ParO t none
 | odd {t:ByteArray}:Plain t->t.size<=64->Bh t.data.toList=false->ParO t none
 | num {t:ByteArray} {neg d:Bool} {L:List UInt8} {m:Nat} {x:Int}:Plain t->t.size<=64->Bh t.data.toList=true->FTxt t neg d L m x->numR d L m x≠9218868437227405312->ParO t (some (sgB neg+numR d L m x))
 | far {t:ByteArray} {neg d:Bool} {L:List UInt8} {m:Nat} {x:Int}:Plain t->t.size<=64->Bh t.data.toList=true->FTxt t neg d L m x->numR d L m x=9218868437227405312->ParO t none
theorem txt_is {t:ByteArray} {l:List UInt8} (h:(t.toList == l)=true):t=⟨l.toArray⟩:=by
 have h1:=eq_of_beq h;rw [ByteArray.toList_eq] at h1;exact ByteArray.ext (by rw [<-h1])
theorem parO_ex (t:ByteArray):∃o,ParO t o:=by
 cases h1:(t.toList == [105,110,102]) with
 | true=>rw [txt_is h1];exact ⟨_,.inf⟩
 | false=>
   cases h2:(t.toList == [45,105,110,102]) with
   | true=>rw [txt_is h2];exact ⟨_,.minf⟩
   | false=>
     cases h3:(t.toList == [110,97,110]) with
     | true=>rw [txt_is h3];exact ⟨_,.nan⟩
     | false=>
       have hp:Plain t:=⟨h1,h2,h3⟩;by_cases hz:t.size<=64
       · cases hr:Bh t.data.toList with
         | false=>exact ⟨_,.odd hp hz hr⟩
         | true=>
           obtain ⟨neg,d,L,m,x,hF,_⟩:=right_txt hr (by omega);by_cases hi:numR d L m x=9218868437227405312
           · exact ⟨_,.far hp hz hr hF hi⟩
           · exact ⟨_,.num hp hz hr hF hi⟩
       · exact ⟨_,.long hp (by omega)⟩
theorem parO_lt {t:ByteArray} {o:Option Nat} (h:ParO t o):∀r,o=some r->r<18446744073709551616:=by
 intro r hr;cases h with
 | inf=>cases hr;decide
 | minf=>cases hr;decide
 | nan=>cases hr;decide
 | long=>cases hr
 | odd=>cases hr
 | @num _ neg d L m x hp hz hrt hF hi=>
   cases hr
   have h1:=numR_le hF (by omega);cases neg<;>simp [sgB]<;>omega
 | far=>cases hr
theorem F8 {s:ByteArray} {neg d:Bool} {L:List UInt8} {m:Nat} {x:Int} (h:FTxt s neg d L m x) (hz:s.size<=700) {w:World} (hY:Lay w) :
   Calls Tryz.prog 85 #[.string s,.int .i64 64] w fun e w' => ∃er,e=.returned (.tuple #[.float .f64 (sgB neg+numR d L m x),er])/\((numR d L m x≠9218868437227405312/\er=.nilIface)\/(numR d L m x=9218868437227405312/\∃N,er=.iface 156 (.pointer (some ⟨N,0,none⟩))))/\Below w.heap.size w w' :=
 sparse_anyB (by omega) hY.rng (atof_all h hz hY)
set_option maxRecDepth 100000 in
set_option maxHeartbeats 1600000 in
theorem real_long {t:ByteArray} (hp:Plain t) (hz:64<t.size) (w:World):Calls Tryz.prog 90 #[.string t] w fun e w' => e=.returned (.tuple #[.float .f64 0,.int .i64 21])/\Below w.heap.size w w' := by
 obtain ⟨k1,k2,k3⟩:=hp;have hsz:(64:Int)<(t.size:Int):=by omega
 go_enter Tryz.func90,Tryz.ntmps90
 go_wp2
 go_ret2
 exact ⟨rfl,Below.refl _ _⟩
set_option maxRecDepth 100000 in
set_option maxHeartbeats 1600000 in
theorem real_odd {t:ByteArray} (hp:Plain t) (hz:t.size<=64) (hr:Bh t.data.toList=false) (w:World):Calls Tryz.prog 90 #[.string t] w fun e w' => e=.returned (.tuple #[.float .f64 0,.int .i64 21])/\Below w.heap.size w w' := by
 obtain ⟨k1,k2,k3⟩:=hp;have hra:=El (s:=t) (by omega) w;rw [hr] at hra;have hsz:¬(64:Int)<(t.size:Int):=by omega
 replace hra:=Hd hra;clear hr
 go_enter Tryz.func90,Tryz.ntmps90
 go_wp2_with fail
 refine hra.out.mono ?_;rintro e w1 ⟨rfl,hb⟩;go_wp2
 go_ret2
 exact ⟨rfl,hb⟩
set_option maxRecDepth 100000 in
set_option maxHeartbeats 1600000 in
theorem real_far {t:ByteArray} {r:Nat} {N' : Nat->Prop} (hp:Plain t) (hz:t.size<=64) (hr:Bh t.data.toList=true) {w:World}
   (hs:∀w', Below w.heap.size w w' -> Calls Tryz.prog 85 #[.string t,.int .i64 64] w' fun e w'' => ∃N,e=.returned (.tuple #[.float .f64 r,.iface 156 (.pointer (some ⟨N,0,none⟩))])/\Below w'.heap.size w' w'') :
   Calls Tryz.prog 90 #[.string t] w fun e w' => e=.returned (.tuple #[.float .f64 0,.int .i64 21])/\Below w.heap.size w w' := by
 obtain ⟨k1,k2,k3⟩:=hp
 have hra:=El (s:=t) (by omega) w
 rw [hr] at hra
 have hsz:¬(64:Int)<(t.size:Int):=by omega
 replace hra:=Hd hra
 replace hs:=Hd hs
 clear hr
 go_enter Tryz.func90,Tryz.ntmps90
 go_wp2_with fail
 refine hra.out.mono ?_
 rintro e w1 ⟨rfl,hb⟩
 have hp1:=hs.out w1 hb
 replace hp1:=Hd hp1
 go_wp2_with fail
 refine hp1.out.mono ?_
 rintro e w2 ⟨N,rfl,hb2⟩
 have hb02:=hb.trans (hb2.mono hb.size)
 go_wp2
 go_ret2
 exact ⟨rfl,hb02⟩
def ParA (o:Option Nat):Ending:=match o with
 | some r=>.returned (.tuple #[.float .f64 r,.int .i64 0])
 | none=>.returned (.tuple #[.float .f64 0,.int .i64 21])
theorem real_all {t:ByteArray} {o:Option Nat} (h:ParO t o) {w:World} (hY:Lay w):Calls Tryz.prog 90 #[.string t] w fun e w' => e=ParA o/\Below w.heap.size w w' := by
 cases h with
 | inf=>exact (parse_inf w).mono fun e w' ⟨h1,h2⟩=>⟨h1,by rw [h2];exact Below.refl _ _⟩
 | minf=>exact (parse_minf w).mono fun e w' ⟨h1,h2⟩=>⟨h1,by rw [h2];exact Below.refl _ _⟩
 | nan=>exact (parse_nan w).mono fun e w' ⟨h1,h2⟩=>⟨h1,by rw [h2];exact Below.refl _ _⟩
 | long hp hz=>exact real_long hp hz w
 | odd hp hz hr=>exact real_odd hp hz hr w
 | @num _ neg d L m x hp hz hr hF hi=>
   obtain ⟨_,_,_,_,_,_,c,l,h1,hc⟩:=right_txt hr (by omega);exact parse_numB h1 hc hz hr fun w' hb=>(F8 hF (by omega) (hY.below hb)).mono fun e w'' ⟨er,he,hor,hb2⟩=>by
     rcases hor with ⟨_,h9⟩ | ⟨h9,_⟩
     · subst h9;exact ⟨he,hb2⟩
     · exact absurd h9 hi
 | @far _ neg d L m x hp hz hr hF hi=>
   refine real_far (r:=sgB neg+numR d L m x) (N' := fun _=>True) hp hz hr fun w' hb=>(F8 hF (by omega) (hY.below hb)).mono fun e w'' ⟨er,he,hor,hb2⟩=>?_;rcases hor with ⟨h9,_⟩ | ⟨_,N,h9⟩
   · exact absurd hi h9
   · subst h9;exact ⟨N,he,hb2⟩
theorem canon_fin {neg:Bool} {R:Nat} (h:R<=9218868437227405312):Gh (sgB neg+R)=sgB neg+R:=by
 have:nanF (sgB neg+R)=false:=by cases neg<;>exact decide_eq_false (by unfold sgB;simp;omega)
 unfold Gh;rw [this];rfl
set_option maxRecDepth 100000 in
set_option maxHeartbeats 3200000 in
theorem ref_bad {t:ByteArray} (hp:Plain t) (hz:64<t.size\/(t.size<=64/\Bh t.data.toList=false)) (w:World):Calls Tryz.prog 92 #[.string t] w fun e w' => e=.returned (.tuple #[.float .f64 0,.int .i64 21])/\Below w.heap.size w w' := by
 obtain ⟨k1,k2,k3⟩:=hp;rcases hz with hz | ⟨hz,hr⟩
 · have hsz:(64:Int)<(t.size:Int):=by omega
   go_enter Tryz.func92,Tryz.ntmps92
   go_wp2
   go_ret2
   exact ⟨rfl,Below.refl _ _⟩
 · have hfo:=rform_any (s:=t) (by omega) w
   rw [form_right,hr] at hfo;have hsz:¬(64:Int)<(t.size:Int):=by omega
   replace hfo:=Hd hfo;clear hr
   go_enter Tryz.func92,Tryz.ntmps92
   go_wp2_with fail
   refine (hfo.out).mono ?_;rintro e w' ⟨rfl,hww⟩;obtain rfl:=hww.symm;clear hww;go_wp2
   go_ret2
   exact ⟨rfl,Below.refl _ _⟩
set_option maxRecDepth 100000 in
set_option maxHeartbeats 3200000 in
theorem ref_num {t:ByteArray} {neg d:Bool} {L:List UInt8} {m:Nat} {x:Int} (hp:Plain t) (hz:t.size<=64) (hr:Bh t.data.toList=true) (hF:FTxt t neg d L m x) {w:World} (hY:Lay w) :
   Calls Tryz.prog 92 #[.string t] w fun e w' => e=ParA (if numR d L m x=9218868437227405312 then none else some (sgB neg+numR d L m x))/\Below w.heap.size w w' := by
 obtain ⟨k1,k2,k3⟩:=hp
 have hfo:=rform_any (s:=t) (by omega) w
 rw [form_right,hr] at hfo
 have hsz:¬(64:Int)<(t.size:Int):=by omega
 have hsp:=F8 hF (by omega) hY
 have hR9:=numR_le hF (by omega)
 obtain ⟨R,hR⟩:∃R,R=numR d L m x:=⟨_,rfl⟩
 rw [<-hR] at hsp hR9 ⊢
 obtain ⟨V,hV⟩:∃V,V=sgB neg+R:=⟨_,rfl⟩
 have hV9:V<18446744073709551616:=by rw [hV];cases neg<;>simp [sgB]<;>omega
 have hbt:=refBits_any hV9
 have hcv:Gh V=V:=by rw [hV];exact canon_fin hR9
 rw [hcv] at hbt
 rw [<-hV] at hsp ⊢
 have hfin:(R=9218868437227405312/\((V:Int)=9218868437227405312\/(((V:Int) == 9218868437227405312)=false/\(V:Int)=18442240474082181120)))\/(R≠9218868437227405312/\((V:Int) == 9218868437227405312)=false/\((V:Int) == 18442240474082181120)=false):=by
   by_cases hi:R=9218868437227405312
   · left
     refine ⟨hi,?_⟩;cases neg
     · left;rw [hV,hi];rfl
     · right;rw [hV,hi];exact ⟨rfl,rfl⟩
   · right
     refine ⟨hi,?_,?_⟩
     · rw [beq_eq_false_iff_ne,hV]
       cases neg<;>simp [sgB]<;>omega
     · rw [beq_eq_false_iff_ne,hV]
       cases neg<;>simp [sgB]<;>omega
 replace hfo:=Hd hfo
 replace hsp:=Hd hsp
 replace hbt:=Hd hbt
 replace hfin:=Hd hfin
 clear hr hF hY hR hV hcv hR9 hV9
 rcases hfin.out with ⟨hi,hv | ⟨hv0,hv⟩⟩ | ⟨hi,hv0,hv1⟩
 · rw [if_pos hi]
   replace hi:=Hd hi
   go_enter Tryz.func92,Tryz.ntmps92
   go_wp2_with fail
   refine (hfo.out).mono ?_;rintro e w' ⟨rfl,hww⟩;obtain rfl:=hww.symm;clear hww;go_wp2_with fail
   refine hsp.out.mono ?_;rintro e w1 ⟨er,rfl,_,hb⟩;go_wp2_with fail
   refine (hbt.out _).mono ?_;rintro e w' ⟨rfl,hww⟩;obtain rfl:=hww.symm;clear hww;go_wp2
   go_ret2
   exact ⟨rfl,hb⟩
 · rw [if_pos hi]
   replace hi:=Hd hi
   go_enter Tryz.func92,Tryz.ntmps92
   go_wp2_with fail
   refine (hfo.out).mono ?_;rintro e w' ⟨rfl,hww⟩;obtain rfl:=hww.symm;clear hww;go_wp2_with fail
   refine hsp.out.mono ?_;rintro e w1 ⟨er,rfl,_,hb⟩;go_wp2_with fail
   refine (hbt.out _).mono ?_;rintro e w' ⟨rfl,hww⟩;obtain rfl:=hww.symm;clear hww;go_wp2_with fail
   refine (hbt.out _).mono ?_;rintro e w' ⟨rfl,hww⟩;obtain rfl:=hww.symm;clear hww;go_wp2
   go_ret2
   exact ⟨rfl,hb⟩
 · rw [if_neg hi]
   replace hi:=Hd hi
   go_enter Tryz.func92,Tryz.ntmps92
   go_wp2_with fail
   refine (hfo.out).mono ?_;rintro e w' ⟨rfl,hww⟩;obtain rfl:=hww.symm;clear hww;go_wp2_with fail
   refine hsp.out.mono ?_;rintro e w1 ⟨er,rfl,_,hb⟩;go_wp2_with fail
   refine (hbt.out _).mono ?_;rintro e w' ⟨rfl,hww⟩;obtain rfl:=hww.symm;clear hww;go_wp2_with fail
   refine (hbt.out _).mono ?_;rintro e w' ⟨rfl,hww⟩;obtain rfl:=hww.symm;clear hww;go_wp2
   go_ret2
   exact ⟨rfl,hb⟩
set_option maxRecDepth 100000 in
set_option maxHeartbeats 3200000 in
theorem ref_inf (w:World):Calls Tryz.prog 92 #[.string ⟨#[105,110,102]⟩] w fun e w' => e=ParA (some 9218868437227405312)/\Below w.heap.size w w' := by
 have f1:∀w,(callFunc 57 #[.int .u64 9218868437227405312]).run Tryz.prog w=.ok (.value (.float .f64 9218868437227405312)) w:=fun w=>Ds 9218868437227405312 w
 go_enter Tryz.func92,Tryz.ntmps92
 go_wp2
 go_ret2
 exact ⟨rfl,Below.refl _ _⟩
set_option maxRecDepth 100000 in
set_option maxHeartbeats 3200000 in
theorem ref_minf (w:World):Calls Tryz.prog 92 #[.string ⟨#[45,105,110,102]⟩] w fun e w' => e=ParA (some 18442240474082181120)/\Below w.heap.size w w' := by
 have f1:∀w,(callFunc 57 #[.int .u64 18442240474082181120]).run Tryz.prog w=.ok (.value (.float .f64 18442240474082181120)) w:=fun w=>Ds 18442240474082181120 w
 go_enter Tryz.func92,Tryz.ntmps92
 go_wp2
 go_ret2
 exact ⟨rfl,Below.refl _ _⟩
set_option maxRecDepth 100000 in
set_option maxHeartbeats 3200000 in
theorem ref_nan (w:World):Calls Tryz.prog 92 #[.string ⟨#[110,97,110]⟩] w fun e w' => e=ParA (some 9221120237041090561)/\Below w.heap.size w w' := by
 have f1:∀w,(callFunc 57 #[.int .u64 9221120237041090561]).run Tryz.prog w=.ok (.value (.float .f64 9221120237041090561)) w:=fun w=>Ds 9221120237041090561 w
 go_enter Tryz.func92,Tryz.ntmps92
 go_wp2
 go_ret2
 exact ⟨rfl,Below.refl _ _⟩
theorem ref_all {t:ByteArray} {o:Option Nat} (h:ParO t o) {w:World} (hY:Lay w):Calls Tryz.prog 92 #[.string t] w fun e w' => e=ParA o/\Below w.heap.size w w' := by
 cases h with
 | inf=>exact ref_inf w
 | minf=>exact ref_minf w
 | nan=>exact ref_nan w
 | long hp hz=>exact ref_bad hp (.inl hz) w
 | odd hp hz hr=>exact ref_bad hp (.inr ⟨hz,hr⟩) w
 | num hp hz hr hF hi=>
   have h1:=ref_num hp hz hr hF hY;rw [if_neg hi] at h1;exact h1
 | far hp hz hr hF hi=>
   have h1:=ref_num hp hz hr hF hY;rw [if_pos hi] at h1;exact h1
end Go.Proofs.YtagkgfniihiinaaGreatDoor
