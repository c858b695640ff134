/- Is a value's text, or list, as its kind asks? -/
import Derived.Test.YtagkgfniihiinaaGreatDoorJ86
import Derived.Test.YtagkgfniihiinaaGreatDoorCrlfB
import Derived.Shelf.Strings.SlTrimAscii
import Derived.Deep.DeepCutAuto
set_option linter.all false
namespace Go.Proofs.YtagkgfniihiinaaGreatDoor
open Go.RowKit Go.Shelf Go.Lib
abbrev Ch:List UInt8:=[48,49,50,51,52,53,54,55,56,57]
def bigB (s:ByteArray):Bool:=!(Lib.trimPrefix s.data.toList [45]).isEmpty && (Lib.trimS (Lib.trimPrefix s.data.toList [45]) Ch).isEmpty
theorem trim_any (s:ByteArray) (w:World) (hs:s.size<=9223372036854775807):Calls Tryz.prog 167 #[.string s,.string ⟨#[48,49,50,51,52,53,54,55,56,57]⟩] w fun e w' => e=.returned (.string ⟨(Lib.trimS s.data.toList Ch).toArray⟩)/\Below w.heap.size w w' :=
 Any.strings_Trim_laid Tryz.lays160 (by kernel_rfl) s ⟨#[48,49,50,51,52,53,54,55,56,57]⟩ w hs (by decide) (ascii_of_all (by decide))
theorem trimPrefix_len (l p:List UInt8):(Lib.trimPrefix l p).length<=l.length:=by
 unfold Lib.trimPrefix;split
 · simp
 · exact Nat.le_refl _
theorem big_any (s:ByteArray) (w:World) (hs:s.size<=9223372036854775807):Calls Tryz.prog 132 #[.string s] w fun e w' => e=.returned (.bool (bigB s))/\Below w.heap.size w w' := by
 have hp:=Tryz.strings_TrimPrefix s ⟨#[45]⟩ w;have hl:=trimPrefix_len s.data.toList [45];have e1:(ByteArray.mk #[45]).data.toList=[45]:=rfl;rw [e1] at hp;unfold bigB;have hsl:s.data.toList.length=s.size:=by simp
 rw [hsl] at hl;obtain ⟨t,ht⟩:∃t:ByteArray,t=⟨(Lib.trimPrefix s.data.toList [45]).toArray⟩:=⟨_,rfl⟩;have ht' : Lib.trimPrefix s.data.toList [45]=t.data.toList:=by rw [ht]
 rw [ht'] at hl ⊢;rw [<-ht] at hp
 have htr:=trim_any t w (by have:t.data.toList.length=t.size:=by simp
                            omega)
 have hte:t.toList=t.data.toList:=Lib.toList_data t;obtain ⟨u,hu⟩:∃u:ByteArray,u=⟨(Lib.trimS t.data.toList Ch).toArray⟩:=⟨_,rfl⟩;have hu' : Lib.trimS t.data.toList Ch=u.data.toList:=by rw [hu]
 rw [hu'] at ⊢;rw [<-hu] at htr;have hue:u.toList=u.data.toList:=Lib.toList_data u;rw [<-hte,<-hue];replace hp:=Hd hp;replace htr:=Hd htr;clear ht ht' hl e1 hsl hte hu hu' hue;by_cases h1:t.toList=[]
 · have h1' : t.toList.isEmpty=true:=by simp [h1]
   have h1'' : (!t.toList.isEmpty)=false:=by simp [h1]
   go_enter Tryz.func132,Tryz.ntmps132
   go_wp2_with (go_at_call 166;refine hp.out.mono ?_;rintro e w' ⟨rfl,hw⟩;rw [hw])
   go_ret;exact ⟨by simp [h1],Below.refl _ _⟩
 · have h1' : t.toList.isEmpty=false:=by simp [h1]
   have h1'' : (!t.toList.isEmpty)=true:=by simp [h1]
   go_enter Tryz.func132,Tryz.ntmps132
   go_wp2_with (first | (go_at_call 166;refine hp.out.mono ?_;rintro e w' ⟨rfl,hw⟩;rw [hw]) | (go_at_call 167;refine htr.out.mono ?_;rintro e w1 ⟨rfl,hb⟩))
   go_ret;exact ⟨by simp [h1],hb⟩
def Dj (s:ByteArray):Bool:=if h:3<s.size then s[3]'h == 58 else false
def Bv (k:Int) (t:ByteArray) (n:Nat):Bool:=
 if k=1\/k=2 then !Fv t else if k=9 then bigB t else if k=11 then Dj t else if k=12 then decide (n % 2=0) else if k=14 then decide (0<n) else true
set_option maxHeartbeats 1600000 in
theorem Fa (k:Int) (t:ByteArray) (i:Int) (r:Nat) (f:Bool) (a:Option Addr) (n cap:Nat) (w:World) (ht:t.size<=9223372036854775807) (hn:n<=100000) :
   Calls Tryz.prog 107 #[.agg #[.int .i64 k,.string t,.int .i64 i,.float .f64 r,.bool f,.slice a n cap]] w fun e w' => e=.returned (.bool (Bv k t n))/\Below w.heap.size w w' := by
 have hal:=fun (o:Obj)=>(Below.refl w.heap.size w).alloc (Nat.le_refl _) o
 have hca:=fun (W:World)=>cany_any t W ht
 have hbg:=fun (W:World)=>big_any t W ht
 replace hal:=Hd hal
 replace hca:=Hd hca
 replace hbg:=Hd hbg
 rcases (by omega:k=1\/k=2\/k=9\/k=11\/k=12\/k=14\/(k≠1/\k≠2/\k≠9/\k≠11/\k≠12/\k≠14)) with rfl | rfl | rfl | rfl | rfl | rfl | h
 · rw [show Bv 1 t n=!Fv t by simp [Bv]]
   go_enter Tryz.func107,Tryz.ntmps107
   go_wp2_with fail
   refine (hca.out _).mono ?_;rintro e w1 ⟨rfl,hb⟩;have hbb:=(hal.out (.cells #[.int .i64 1,.string t,.int .i64 i,.float .f64 r,.bool f,.slice a n cap] 26)).trans (hb.mono (by simp));go_wp2;go_ret;exact ⟨rfl,hbb⟩
 · rw [show Bv 2 t n=!Fv t by simp [Bv]]
   go_enter Tryz.func107,Tryz.ntmps107
   go_wp2_with fail
   refine (hca.out _).mono ?_;rintro e w1 ⟨rfl,hb⟩;have hbb:=(hal.out (.cells #[.int .i64 2,.string t,.int .i64 i,.float .f64 r,.bool f,.slice a n cap] 26)).trans (hb.mono (by simp));go_wp2;go_ret;exact ⟨rfl,hbb⟩
 · rw [show Bv 9 t n=bigB t by simp [Bv]]
   go_enter Tryz.func107,Tryz.ntmps107
   go_wp2_with fail
   refine (hbg.out _).mono ?_;rintro e w1 ⟨rfl,hb⟩;have hbb:=(hal.out (.cells #[.int .i64 9,.string t,.int .i64 i,.float .f64 r,.bool f,.slice a n cap] 26)).trans (hb.mono (by simp));go_wp2;go_ret;exact ⟨rfl,hbb⟩
 · rw [show Bv 11 t n=Dj t by simp [Bv]]
   by_cases h3:3<t.size
   · obtain ⟨b,hb⟩:∃b,t[3]'h3=b:=⟨_,rfl⟩
     rw [show Dj t=(b == 58) by rw [Dj,dif_pos h3,hb]];have h3i:(3:Int)<(t.size:Int):=by omega
     go_enter Tryz.func107,Tryz.ntmps107
     go_wp2;go_ret;refine ⟨?_,hal.out _⟩;have:((b.toNat:Int) == 58)=(b == 58):=by
       rw [Bool.eq_iff_iff];simp;constructor
       · intro h;exact UInt8.toNat_inj.1 (by simpa using (by omega:b.toNat=58))
       · intro h;subst h;rfl
     simp [<-this]
   · rw [show Dj t=false by rw [Dj,dif_neg h3]]
     have h3i:¬(3:Int)<(t.size:Int):=by omega
     go_enter Tryz.func107,Tryz.ntmps107
     go_wp2;go_ret;exact ⟨rfl,hal.out _⟩
 · rw [show Bv 12 t n=decide (n % 2=0) by simp [Bv]]
   go_enter Tryz.func107,Tryz.ntmps107
   go_wp2;go_ret;refine ⟨?_,hal.out _⟩;have:(((n:Int) % 2) == 0)=decide (n % 2=0):=by
     rw [Bool.eq_iff_iff];simp;omega
   simp [<-this]
 · rw [show Bv 14 t n=decide (0<n) by simp [Bv]]
   go_enter Tryz.func107,Tryz.ntmps107
   go_wp2;go_ret;refine ⟨?_,hal.out _⟩;simp
 · obtain ⟨q1,q2,q9,q11,q12,q14⟩:=h
   rw [show Bv k t n=true by simp [Bv,q1,q2,q9,q11,q12,q14]];have h1:(k == 1)=false:=by simpa using q1
   have h2:(k == 2)=false:=by simpa using q2
   have h9:(k == 9)=false:=by simpa using q9
   have h11:(k == 11)=false:=by simpa using q11
   have h12:(k == 12)=false:=by simpa using q12
   have h14:(k == 14)=false:=by simpa using q14
   clear q1 q2 q9 q11 q12 q14
   go_enter Tryz.func107,Tryz.ntmps107
   go_wp2;go_ret;exact ⟨rfl,hal.out _⟩
end Go.Proofs.YtagkgfniihiinaaGreatDoor
namespace Go.Proofs.YtagkgfniihiinaaGreatDoor
open Go.RowKit
def okV (v:V):Bool:=Cc v.kind && Bz v && Bv v.kind v.text v.list.length && decide (v.text.size<=4096)
mutual
def V.fine:V->Int->Bool
 | .mk k t i r f l,d=>okV (.mk k t i r f l) && (!Ak k || decide (1<=d)) && V.fineL l (d - 1)
def V.fineL:List V->Int->Bool
 | [],_=>true
 | x :: l,d=>decide (x.kind≠14) && V.fine x d && V.fineL l d
end
mutual
def V.sized:V->Prop
 | .mk _ t _ _ _ l=>t.size<=9223372036854775807/\V.sizedL l
def V.sizedL:List V->Prop
 | []=>True
 | x :: l=>V.sized x/\V.sizedL l
end
theorem V.fine_eq (v:V) (d:Int):v.fine d=(okV v && (!Ak v.kind || decide (1<=d)) && V.fineL v.list (d - 1)):=by cases v;simp only [V.fine,V.kind,V.list]
theorem V.sized_eq (v:V):v.sized ↔ v.text.size<=9223372036854775807/\V.sizedL v.list:=by cases v;simp only [V.sized,V.text,V.list]
theorem V.sizedL_mem {l:List V} (h:V.sizedL l):∀x∈l,x.sized:=by
 induction l with
 | nil=>intro x hx;cases hx
 | cons y l ih=>
   intro x hx;rcases List.mem_cons.1 hx with rfl | hx
   · exact h.1
   · exact ih h.2 x hx
theorem V.fineL_snoc (l:List V) (x:V) (d:Int):V.fineL (l++[x]) d=(V.fineL l d && (decide (x.kind≠14) && V.fine x d)):=by
 induction l with
 | nil=>simp [V.fineL]
 | cons y l ih=>simp only [List.cons_append,V.fineL,ih,Bool.and_assoc]
theorem V.fineL_take {l:List V} {d:Int} (h:V.fineL l d=true) (j:Nat):V.fineL (l.take j) d=true:=by
 induction l generalizing j with
 | nil=>simp [V.fineL]
 | cons y l ih=>
   simp only [V.fineL,Bool.and_eq_true] at h;cases j with
   | zero=>simp [V.fineL]
   | succ j=>simp only [List.take_succ_cons,V.fineL,Bool.and_eq_true];exact ⟨h.1,ih h.2 j⟩
theorem V.countL_take (l:List V) (j:Nat):V.countL (l.take j)<=V.countL l:=by
 induction l generalizing j with
 | nil=>simp
 | cons y l ih=>
   cases j with
   | zero=>simp [V.countL]
   | succ j=>simp only [List.take_succ_cons,V.countL];have:=ih j;omega
theorem V.count_eq (v:V):v.count=V.countL v.list+1:=by cases v;simp only [V.count,V.list]
def Bk (v:V) (deep left:Int):Int:=if v.fine deep=true/\(v.count:Int)<=left then left - v.count else -1
theorem Dt {v:V} {deep left:Int} (h:okV v=false\/left<1\/(Ak v.kind=true/\deep<1)):Bk v deep left=-1:=by
 unfold Bk;rw [if_neg];rintro ⟨h1,h2⟩;rw [V.fine_eq] at h1;simp only [Bool.and_eq_true,Bool.or_eq_true,Bool.not_eq_true', decide_eq_true_eq] at h1;have:=v.count_pos;rcases h with h | h | ⟨h,h'⟩
 · rw [h] at h1;simp at h1
 · omega
 · rcases h1.1.2 with h3 | h3
   · rw [h] at h3;cases h3
   · omega
theorem rightZ_elem {v x:V} {deep left:Int} {j:Nat} (hx:v.list[j]?=some x) (h:x.kind=14\/Bk x (deep - 1) (left - 1 - V.countL (v.list.take j))<0):Bk v deep left=-1:=by
 unfold Bk;rw [if_neg];rintro ⟨h1,h2⟩;rw [V.fine_eq] at h1;simp only [Bool.and_eq_true] at h1;obtain ⟨hj,hxe⟩:=List.getElem?_eq_some_iff.1 hx;have ht:=V.fineL_take h1.2 (j+1);have hc:=V.countL_take v.list (j+1);rw [List.take_succ_eq_append_getElem hj,hxe] at ht hc;rw [V.fineL_snoc] at ht;rw [V.countL_append] at hc;simp only [V.countL,Nat.add_zero] at hc;simp only [Bool.and_eq_true,decide_eq_true_eq] at ht;rw [V.count_eq] at h2;rcases h with h | h
 · exact ht.2.1 h
 · unfold Bk at h
   rw [if_pos ⟨ht.2.2,by omega⟩] at h;omega
theorem rightZ_all {v:V} {deep left q:Int} (hok:okV v=true) (hd:Ak v.kind=true->1<=deep) (hf:V.fineL v.list (deep - 1)=true) (hq:0<=q) (hc:(V.countL v.list:Int)+q+1=left):Bk v deep left=q:=by
 unfold Bk;rw [if_pos]
 · rw [V.count_eq];omega
 · rw [V.fine_eq,hok,hf,V.count_eq]
   refine ⟨?_,by omega⟩;cases hl:Ak v.kind
   · simp
   · simp [hd hl]
theorem rightZ_lo (v:V) (deep left:Int):-1<=Bk v deep left:=by unfold Bk;split<;>omega
theorem rightZ_hi (v:V) (deep left:Int) (h:-1<=left):Bk v deep left<=left:=by unfold Bk;split<;>omega
theorem rightZ_step {x:V} {d q:Int} (h:0<=Bk x d q):V.fine x d=true/\Bk x d q=q - x.count:=by
 unfold Bk at h ⊢;split at h
 · rename_i h1;rw [if_pos h1];exact ⟨h1.1,rfl⟩
 · omega
set_option maxRecDepth 100000 in
set_option maxHeartbeats 6400000 in
theorem right_any (v:V):∀(a:Option Addr) (cap:Nat) (deep left:Int) (w:World),RV w.cell? (An v.kind v.text v.int v.real v.flag a v.list.length cap) v->v.sized->v.count<=100000->0<=deep->deep<=1000->left<=100000->-10<=left ->
   Calls Tryz.prog 89 #[.agg #[.int .i64 v.kind,.string v.text,.int .i64 v.int,.float .f64 v.real,.bool v.flag,.slice a v.list.length cap],.int .i64 deep,.int .i64 left] w fun e w' => e=.returned (.int .i64 (Bk v deep left))/\Below w.heap.size w w' := by
 induction v using V.ind with
 | h v ih=>
 intro a cap deep left w hv hsized hcnt hd0 hd1 hl1 hl0
 replace ih:=Hd ih
 have hsz:=((V.sized_eq v).1 hsized).1
 have hsl:=((V.sized_eq v).1 hsized).2
 have hn5:v.list.length<=100000:=by have:=V.length_le v.list;have:=v.count_list_lt;omega
 replace hsl:=Hd hsl
 obtain ⟨W1,hW1⟩:∃W1,W1=w.alloc (.cells #[.int .i64 v.kind,.string v.text,.int .i64 v.int,.float .f64 v.real,.bool v.flag,.slice a v.list.length cap] 26):=⟨_,rfl⟩
 have hb0:Below w.heap.size w W1:=by rw [hW1];exact (Below.refl _ _).alloc (Nat.le_refl _) _
 have hs1:W1.heap.size=w.heap.size+1:=by rw [hW1];simp
 have hB:∀q u,#[.int .i64 v.kind,.string v.text,.int .i64 v.int,.float .f64 v.real,.bool v.flag,.slice a v.list.length cap][q]?=some u->W1.cell? ⟨w.heap.size,q,none⟩=some u:=fun q u h=>by rw [hW1,World.cell?_alloc_new];exact h
 replace hs1:=Hd hs1
 replace hB:=Hd hB
 replace hW1:=Hd hW1
 replace hb0:=Hd hb0
 replace hv:=Hd hv
 clear hsized
 cases hk:Cc v.kind with
 | false=>
   rw [Dt (Or.inl (by simp [okV,hk]))]
   go_enter Tryz.func89,Tryz.ntmps89
   go_wp2_with fail
   rw [<-hW1.out];refine (Er v.kind W1).mono ?_;rintro e w1 ⟨rfl,hb1⟩;have hbw1:Below w.heap.size w w1:=hb0.out.trans (hb1.mono (by rw [hs1.out];omega));have g0:=Aa hb1 _ _ (hB.out 0 (.int .i64 v.kind) rfl);have g1:=Aa hb1 _ _ (hB.out 1 (.string v.text) rfl);have g2:=Aa hb1 _ _ (hB.out 2 (.int .i64 v.int) rfl);have g3:=Aa hb1 _ _ (hB.out 3 (.float .f64 v.real) rfl);have g4:=Aa hb1 _ _ (hB.out 4 (.bool v.flag) rfl);have g5:=Aa hb1 _ _ (hB.out 5 (.slice a v.list.length cap) rfl);have hl1:w.heap.size<w1.heap.size:=World.block_lt_of_cell? _ _ g0;rw [hk];go_wp2;go_ret;exact ⟨rfl,hbw1.alloc hbw1.size _⟩
 | true=>
 cases hN:Bz v with
 | false=>
   rw [Dt (Or.inl (by simp [okV,hN]))]
   go_enter Tryz.func89,Tryz.ntmps89
   go_wp2_with fail
   rw [<-hW1.out];refine (Er v.kind W1).mono ?_;rintro e w1 ⟨rfl,hb1⟩;have hbw1:Below w.heap.size w w1:=hb0.out.trans (hb1.mono (by rw [hs1.out];omega));have g0:=Aa hb1 _ _ (hB.out 0 (.int .i64 v.kind) rfl);have g1:=Aa hb1 _ _ (hB.out 1 (.string v.text) rfl);have g2:=Aa hb1 _ _ (hB.out 2 (.int .i64 v.int) rfl);have g3:=Aa hb1 _ _ (hB.out 3 (.float .f64 v.real) rfl);have g4:=Aa hb1 _ _ (hB.out 4 (.bool v.flag) rfl);have g5:=Aa hb1 _ _ (hB.out 5 (.slice a v.list.length cap) rfl);have hl1:w.heap.size<w1.heap.size:=World.block_lt_of_cell? _ _ g0;rw [hk];go_wp2_with fail
   refine (Cy v a cap _).mono ?_;rintro e w2 ⟨rfl,hb2⟩;have hbx2:Below w1.heap.size w1 w2:=((Below.refl w1.heap.size w1).alloc (Nat.le_refl _) (.cells #[.bool (Bj v.kind),.bool (numK v.kind),.bool (Bn v.kind),.bool (Bq v.kind),.bool (Ak v.kind)] 146)).trans (hb2.mono (by simp));have p4:w2.cell? ⟨w1.heap.size,4,none⟩=some (.bool (Ak v.kind)):=Aa hb2 _ _ (by simp);have hb12:=hb1.trans (hbx2.mono hb1.size);have hbw2:Below w.heap.size w w2:=hbw1.trans (hbx2.mono hbw1.size);clear g0 g1 g2 g3 g4 g5 hb2;have g0:=Aa hb12 _ _ (hB.out 0 (.int .i64 v.kind) rfl);have g1:=Aa hb12 _ _ (hB.out 1 (.string v.text) rfl);have g2:=Aa hb12 _ _ (hB.out 2 (.int .i64 v.int) rfl);have g3:=Aa hb12 _ _ (hB.out 3 (.float .f64 v.real) rfl);have g4:=Aa hb12 _ _ (hB.out 4 (.bool v.flag) rfl);have g5:=Aa hb12 _ _ (hB.out 5 (.slice a v.list.length cap) rfl);rw [hN];go_wp2;go_ret;exact ⟨rfl,hbw2⟩
 | true=>
 cases hF:Bv v.kind v.text v.list.length with
 | false=>
   rw [Dt (Or.inl (by simp [okV,hF]))]
   go_enter Tryz.func89,Tryz.ntmps89
   go_wp2_with fail
   rw [<-hW1.out];refine (Er v.kind W1).mono ?_;rintro e w1 ⟨rfl,hb1⟩;have hbw1:Below w.heap.size w w1:=hb0.out.trans (hb1.mono (by rw [hs1.out];omega));have g0:=Aa hb1 _ _ (hB.out 0 (.int .i64 v.kind) rfl);have g1:=Aa hb1 _ _ (hB.out 1 (.string v.text) rfl);have g2:=Aa hb1 _ _ (hB.out 2 (.int .i64 v.int) rfl);have g3:=Aa hb1 _ _ (hB.out 3 (.float .f64 v.real) rfl);have g4:=Aa hb1 _ _ (hB.out 4 (.bool v.flag) rfl);have g5:=Aa hb1 _ _ (hB.out 5 (.slice a v.list.length cap) rfl);have hl1:w.heap.size<w1.heap.size:=World.block_lt_of_cell? _ _ g0;rw [hk];go_wp2_with fail
   refine (Cy v a cap _).mono ?_;rintro e w2 ⟨rfl,hb2⟩;have hbx2:Below w1.heap.size w1 w2:=((Below.refl w1.heap.size w1).alloc (Nat.le_refl _) (.cells #[.bool (Bj v.kind),.bool (numK v.kind),.bool (Bn v.kind),.bool (Bq v.kind),.bool (Ak v.kind)] 146)).trans (hb2.mono (by simp));have p4:w2.cell? ⟨w1.heap.size,4,none⟩=some (.bool (Ak v.kind)):=Aa hb2 _ _ (by simp);have hb12:=hb1.trans (hbx2.mono hb1.size);have hbw2:Below w.heap.size w w2:=hbw1.trans (hbx2.mono hbw1.size);clear g0 g1 g2 g3 g4 g5 hb2;have g0:=Aa hb12 _ _ (hB.out 0 (.int .i64 v.kind) rfl);have g1:=Aa hb12 _ _ (hB.out 1 (.string v.text) rfl);have g2:=Aa hb12 _ _ (hB.out 2 (.int .i64 v.int) rfl);have g3:=Aa hb12 _ _ (hB.out 3 (.float .f64 v.real) rfl);have g4:=Aa hb12 _ _ (hB.out 4 (.bool v.flag) rfl);have g5:=Aa hb12 _ _ (hB.out 5 (.slice a v.list.length cap) rfl);rw [hN];go_wp2_with fail
   refine (Fa v.kind v.text v.int v.real v.flag a v.list.length cap _ hsz hn5).mono ?_;rintro e w3 ⟨rfl,hb3⟩;have p4:=Aa hb3 _ _ p4;have hb13:=hb12.trans (hb3.mono hb12.size);have hbw3:Below w.heap.size w w3:=hbw2.trans (hb3.mono hbw2.size);clear g0 g1 g2 g3 g4 g5;have g0:=Aa hb13 _ _ (hB.out 0 (.int .i64 v.kind) rfl);have g1:=Aa hb13 _ _ (hB.out 1 (.string v.text) rfl);have g2:=Aa hb13 _ _ (hB.out 2 (.int .i64 v.int) rfl);have g3:=Aa hb13 _ _ (hB.out 3 (.float .f64 v.real) rfl);have g4:=Aa hb13 _ _ (hB.out 4 (.bool v.flag) rfl);have g5:=Aa hb13 _ _ (hB.out 5 (.slice a v.list.length cap) rfl);rw [hF];go_wp2;go_ret;exact ⟨rfl,hbw3⟩
 | true=>
 by_cases hbig:v.text.size<=4096
 case neg=>
   rw [Dt (Or.inl (by simp [okV,hbig]))];have hbi:(4096:Int)<(v.text.size:Int):=by omega
   go_enter Tryz.func89,Tryz.ntmps89
   go_wp2_with fail
   rw [<-hW1.out];refine (Er v.kind W1).mono ?_;rintro e w1 ⟨rfl,hb1⟩;have hbw1:Below w.heap.size w w1:=hb0.out.trans (hb1.mono (by rw [hs1.out];omega));have g0:=Aa hb1 _ _ (hB.out 0 (.int .i64 v.kind) rfl);have g1:=Aa hb1 _ _ (hB.out 1 (.string v.text) rfl);have g2:=Aa hb1 _ _ (hB.out 2 (.int .i64 v.int) rfl);have g3:=Aa hb1 _ _ (hB.out 3 (.float .f64 v.real) rfl);have g4:=Aa hb1 _ _ (hB.out 4 (.bool v.flag) rfl);have g5:=Aa hb1 _ _ (hB.out 5 (.slice a v.list.length cap) rfl);have hl1:w.heap.size<w1.heap.size:=World.block_lt_of_cell? _ _ g0;rw [hk];go_wp2_with fail
   refine (Cy v a cap _).mono ?_;rintro e w2 ⟨rfl,hb2⟩;have hbx2:Below w1.heap.size w1 w2:=((Below.refl w1.heap.size w1).alloc (Nat.le_refl _) (.cells #[.bool (Bj v.kind),.bool (numK v.kind),.bool (Bn v.kind),.bool (Bq v.kind),.bool (Ak v.kind)] 146)).trans (hb2.mono (by simp));have p4:w2.cell? ⟨w1.heap.size,4,none⟩=some (.bool (Ak v.kind)):=Aa hb2 _ _ (by simp);have hb12:=hb1.trans (hbx2.mono hb1.size);have hbw2:Below w.heap.size w w2:=hbw1.trans (hbx2.mono hbw1.size);clear g0 g1 g2 g3 g4 g5 hb2;have g0:=Aa hb12 _ _ (hB.out 0 (.int .i64 v.kind) rfl);have g1:=Aa hb12 _ _ (hB.out 1 (.string v.text) rfl);have g2:=Aa hb12 _ _ (hB.out 2 (.int .i64 v.int) rfl);have g3:=Aa hb12 _ _ (hB.out 3 (.float .f64 v.real) rfl);have g4:=Aa hb12 _ _ (hB.out 4 (.bool v.flag) rfl);have g5:=Aa hb12 _ _ (hB.out 5 (.slice a v.list.length cap) rfl);rw [hN];go_wp2_with fail
   refine (Fa v.kind v.text v.int v.real v.flag a v.list.length cap _ hsz hn5).mono ?_;rintro e w3 ⟨rfl,hb3⟩;have p4:=Aa hb3 _ _ p4;have hb13:=hb12.trans (hb3.mono hb12.size);have hbw3:Below w.heap.size w w3:=hbw2.trans (hb3.mono hbw2.size);clear g0 g1 g2 g3 g4 g5;have g0:=Aa hb13 _ _ (hB.out 0 (.int .i64 v.kind) rfl);have g1:=Aa hb13 _ _ (hB.out 1 (.string v.text) rfl);have g2:=Aa hb13 _ _ (hB.out 2 (.int .i64 v.int) rfl);have g3:=Aa hb13 _ _ (hB.out 3 (.float .f64 v.real) rfl);have g4:=Aa hb13 _ _ (hB.out 4 (.bool v.flag) rfl);have g5:=Aa hb13 _ _ (hB.out 5 (.slice a v.list.length cap) rfl);rw [hF];go_wp2;go_ret;exact ⟨rfl,hbw3⟩
 have hbi:¬(4096:Int)<(v.text.size:Int):=by omega
 have hok:okV v=true:=by simp [okV,hk,hN,hF,hbig]
 replace hok:=Hd hok
 by_cases hlf:left<1
 · rw [Dt (Or.inr (Or.inl hlf))]
   go_enter Tryz.func89,Tryz.ntmps89
   go_wp2_with fail
   rw [<-hW1.out];refine (Er v.kind W1).mono ?_;rintro e w1 ⟨rfl,hb1⟩;have hbw1:Below w.heap.size w w1:=hb0.out.trans (hb1.mono (by rw [hs1.out];omega));have g0:=Aa hb1 _ _ (hB.out 0 (.int .i64 v.kind) rfl);have g1:=Aa hb1 _ _ (hB.out 1 (.string v.text) rfl);have g2:=Aa hb1 _ _ (hB.out 2 (.int .i64 v.int) rfl);have g3:=Aa hb1 _ _ (hB.out 3 (.float .f64 v.real) rfl);have g4:=Aa hb1 _ _ (hB.out 4 (.bool v.flag) rfl);have g5:=Aa hb1 _ _ (hB.out 5 (.slice a v.list.length cap) rfl);have hl1:w.heap.size<w1.heap.size:=World.block_lt_of_cell? _ _ g0;rw [hk];go_wp2_with fail
   refine (Cy v a cap _).mono ?_;rintro e w2 ⟨rfl,hb2⟩;have hbx2:Below w1.heap.size w1 w2:=((Below.refl w1.heap.size w1).alloc (Nat.le_refl _) (.cells #[.bool (Bj v.kind),.bool (numK v.kind),.bool (Bn v.kind),.bool (Bq v.kind),.bool (Ak v.kind)] 146)).trans (hb2.mono (by simp));have p4:w2.cell? ⟨w1.heap.size,4,none⟩=some (.bool (Ak v.kind)):=Aa hb2 _ _ (by simp);have hb12:=hb1.trans (hbx2.mono hb1.size);have hbw2:Below w.heap.size w w2:=hbw1.trans (hbx2.mono hbw1.size);clear g0 g1 g2 g3 g4 g5 hb2;have g0:=Aa hb12 _ _ (hB.out 0 (.int .i64 v.kind) rfl);have g1:=Aa hb12 _ _ (hB.out 1 (.string v.text) rfl);have g2:=Aa hb12 _ _ (hB.out 2 (.int .i64 v.int) rfl);have g3:=Aa hb12 _ _ (hB.out 3 (.float .f64 v.real) rfl);have g4:=Aa hb12 _ _ (hB.out 4 (.bool v.flag) rfl);have g5:=Aa hb12 _ _ (hB.out 5 (.slice a v.list.length cap) rfl);rw [hN];go_wp2_with fail
   refine (Fa v.kind v.text v.int v.real v.flag a v.list.length cap _ hsz hn5).mono ?_;rintro e w3 ⟨rfl,hb3⟩;have p4:=Aa hb3 _ _ p4;have hb13:=hb12.trans (hb3.mono hb12.size);have hbw3:Below w.heap.size w w3:=hbw2.trans (hb3.mono hbw2.size);clear g0 g1 g2 g3 g4 g5;have g0:=Aa hb13 _ _ (hB.out 0 (.int .i64 v.kind) rfl);have g1:=Aa hb13 _ _ (hB.out 1 (.string v.text) rfl);have g2:=Aa hb13 _ _ (hB.out 2 (.int .i64 v.int) rfl);have g3:=Aa hb13 _ _ (hB.out 3 (.float .f64 v.real) rfl);have g4:=Aa hb13 _ _ (hB.out 4 (.bool v.flag) rfl);have g5:=Aa hb13 _ _ (hB.out 5 (.slice a v.list.length cap) rfl);rw [hF];clear hok hbig hF hN hk;go_wp2;go_ret;exact ⟨rfl,hbw3⟩
 by_cases hdd:Ak v.kind=true/\deep<1
 · obtain ⟨hlk,hdp⟩:=hdd
   rw [Dt (Or.inr (Or.inr ⟨hlk,hdp⟩))];replace hlk:=Hd hlk
   go_enter Tryz.func89,Tryz.ntmps89
   go_wp2_with fail
   rw [<-hW1.out];refine (Er v.kind W1).mono ?_;rintro e w1 ⟨rfl,hb1⟩;have hbw1:Below w.heap.size w w1:=hb0.out.trans (hb1.mono (by rw [hs1.out];omega));have g0:=Aa hb1 _ _ (hB.out 0 (.int .i64 v.kind) rfl);have g1:=Aa hb1 _ _ (hB.out 1 (.string v.text) rfl);have g2:=Aa hb1 _ _ (hB.out 2 (.int .i64 v.int) rfl);have g3:=Aa hb1 _ _ (hB.out 3 (.float .f64 v.real) rfl);have g4:=Aa hb1 _ _ (hB.out 4 (.bool v.flag) rfl);have g5:=Aa hb1 _ _ (hB.out 5 (.slice a v.list.length cap) rfl);have hl1:w.heap.size<w1.heap.size:=World.block_lt_of_cell? _ _ g0;rw [hk];go_wp2_with fail
   refine (Cy v a cap _).mono ?_;rintro e w2 ⟨rfl,hb2⟩;have hbx2:Below w1.heap.size w1 w2:=((Below.refl w1.heap.size w1).alloc (Nat.le_refl _) (.cells #[.bool (Bj v.kind),.bool (numK v.kind),.bool (Bn v.kind),.bool (Bq v.kind),.bool (Ak v.kind)] 146)).trans (hb2.mono (by simp));have p4:w2.cell? ⟨w1.heap.size,4,none⟩=some (.bool (Ak v.kind)):=Aa hb2 _ _ (by simp);have hb12:=hb1.trans (hbx2.mono hb1.size);have hbw2:Below w.heap.size w w2:=hbw1.trans (hbx2.mono hbw1.size);clear g0 g1 g2 g3 g4 g5 hb2;have g0:=Aa hb12 _ _ (hB.out 0 (.int .i64 v.kind) rfl);have g1:=Aa hb12 _ _ (hB.out 1 (.string v.text) rfl);have g2:=Aa hb12 _ _ (hB.out 2 (.int .i64 v.int) rfl);have g3:=Aa hb12 _ _ (hB.out 3 (.float .f64 v.real) rfl);have g4:=Aa hb12 _ _ (hB.out 4 (.bool v.flag) rfl);have g5:=Aa hb12 _ _ (hB.out 5 (.slice a v.list.length cap) rfl);rw [hN];go_wp2_with fail
   refine (Fa v.kind v.text v.int v.real v.flag a v.list.length cap _ hsz hn5).mono ?_;rintro e w3 ⟨rfl,hb3⟩;have p4:=Aa hb3 _ _ p4;have hb13:=hb12.trans (hb3.mono hb12.size);have hbw3:Below w.heap.size w w3:=hbw2.trans (hb3.mono hbw2.size);clear g0 g1 g2 g3 g4 g5;have g0:=Aa hb13 _ _ (hB.out 0 (.int .i64 v.kind) rfl);have g1:=Aa hb13 _ _ (hB.out 1 (.string v.text) rfl);have g2:=Aa hb13 _ _ (hB.out 2 (.int .i64 v.int) rfl);have g3:=Aa hb13 _ _ (hB.out 3 (.float .f64 v.real) rfl);have g4:=Aa hb13 _ _ (hB.out 4 (.bool v.flag) rfl);have g5:=Aa hb13 _ _ (hB.out 5 (.slice a v.list.length cap) rfl);rw [hF];rw [hlk.out] at p4;clear hok hbig hF hN hk;go_wp2;go_ret;exact ⟨rfl,hbw3⟩
 have hdp:Ak v.kind=true->1<=deep:=fun h=>by
   rcases (by omega:1<=deep\/deep<1) with h1 | h1
   · exact h1
   · exact absurd ⟨h,h1⟩ hdd
 have hd2:(Ak v.kind && decide (deep<1))=false:=by
   cases h:Ak v.kind
   · rfl
   · have:=hdp h;simp;omega
 replace hdd:=Hd hdd
 replace hdp:=Hd hdp
 go_enter Tryz.func89,Tryz.ntmps89
 go_wp2_with fail
 rw [<-hW1.out]
 refine (Er v.kind W1).mono ?_
 rintro e w1 ⟨rfl,hb1⟩
 have hbw1:Below w.heap.size w w1:=hb0.out.trans (hb1.mono (by rw [hs1.out];omega))
 have g0:=Aa hb1 _ _ (hB.out 0 (.int .i64 v.kind) rfl)
 have g1:=Aa hb1 _ _ (hB.out 1 (.string v.text) rfl)
 have g2:=Aa hb1 _ _ (hB.out 2 (.int .i64 v.int) rfl)
 have g3:=Aa hb1 _ _ (hB.out 3 (.float .f64 v.real) rfl)
 have g4:=Aa hb1 _ _ (hB.out 4 (.bool v.flag) rfl)
 have g5:=Aa hb1 _ _ (hB.out 5 (.slice a v.list.length cap) rfl)
 have hl1:w.heap.size<w1.heap.size:=World.block_lt_of_cell? _ _ g0
 rw [hk]
 go_wp2_with fail
 refine (Cy v a cap _).mono ?_
 rintro e w2 ⟨rfl,hb2⟩
 have hbx2:Below w1.heap.size w1 w2:=((Below.refl w1.heap.size w1).alloc (Nat.le_refl _) (.cells #[.bool (Bj v.kind),.bool (numK v.kind),.bool (Bn v.kind),.bool (Bq v.kind),.bool (Ak v.kind)] 146)).trans (hb2.mono (by simp))
 have p4:w2.cell? ⟨w1.heap.size,4,none⟩=some (.bool (Ak v.kind)):=Aa hb2 _ _ (by simp)
 have hb12:=hb1.trans (hbx2.mono hb1.size)
 have hbw2:Below w.heap.size w w2:=hbw1.trans (hbx2.mono hbw1.size)
 clear g0 g1 g2 g3 g4 g5 hb2
 have g0:=Aa hb12 _ _ (hB.out 0 (.int .i64 v.kind) rfl)
 have g1:=Aa hb12 _ _ (hB.out 1 (.string v.text) rfl)
 have g2:=Aa hb12 _ _ (hB.out 2 (.int .i64 v.int) rfl)
 have g3:=Aa hb12 _ _ (hB.out 3 (.float .f64 v.real) rfl)
 have g4:=Aa hb12 _ _ (hB.out 4 (.bool v.flag) rfl)
 have g5:=Aa hb12 _ _ (hB.out 5 (.slice a v.list.length cap) rfl)
 rw [hN]
 go_wp2_with fail
 refine (Fa v.kind v.text v.int v.real v.flag a v.list.length cap _ hsz hn5).mono ?_
 rintro e w3 ⟨rfl,hb3⟩
 have p4:=Aa hb3 _ _ p4
 have hb13:=hb12.trans (hb3.mono hb12.size)
 have hbw3:Below w.heap.size w w3:=hbw2.trans (hb3.mono hbw2.size)
 clear g0 g1 g2 g3 g4 g5
 have g0:=Aa hb13 _ _ (hB.out 0 (.int .i64 v.kind) rfl)
 have g1:=Aa hb13 _ _ (hB.out 1 (.string v.text) rfl)
 have g2:=Aa hb13 _ _ (hB.out 2 (.int .i64 v.int) rfl)
 have g3:=Aa hb13 _ _ (hB.out 3 (.float .f64 v.real) rfl)
 have g4:=Aa hb13 _ _ (hB.out 4 (.bool v.flag) rfl)
 have g5:=Aa hb13 _ _ (hB.out 5 (.slice a v.list.length cap) rfl)
 rw [hF]
 have hN0:Ak v.kind=false->v.list.length=0:=fun h=>by
   simp only [Bz,Bi,Bool.and_eq_true,Bool.or_eq_true,decide_eq_true_eq] at hN;rcases hN.2 with h1 | h1
   · rw [h] at h1;cases h1
   · exact h1
 clear hF hN hk hbig hd2
 cases hlk:Ak v.kind with
 | false=>
   have hz:=hN0 hlk;rw [hlk] at p4;replace hlk:=Hd hlk;clear hN0;go_wp2_with fail
   clear g0 g1 g2 g3 g4 g5 p4;replace hz:=Hd hz;go_loopw [2,53] (fun s2 s53 wr=>s53=.int .i64 0/\s2=.int .i64 (left - 1)/\Below w.heap.size w wr) (fun _ s53 _=>v.list.length - (intOf s53).toNat)
   case atStart=>exact ⟨rfl,rfl,hbw3⟩
   case round=>
     obtain ⟨rfl,rfl,hbel⟩:=hrel;have hlt:¬(0:Int)<(v.list.length:Int):=by have:=hz.out;omega
     have hlt' : ¬0<v.list.length:=by have:=hz.out;omega
     clear hbw3;go_wp2;go_ret;have hl0:v.list=[]:=List.length_eq_zero_iff.1 hz.out;exact ⟨by rw [rightZ_all (q:=left - 1) hok.out hdp.out (by rw [hl0];simp [V.fineL]) (by omega) (by rw [hl0];simp [V.countL])];rfl,hbel⟩
 | true=>
   have hd4:1<=deep:=hdp.out hlk;have hd3:¬deep<1:=by omega
   rw [hlk] at p4;replace hlk:=Hd hlk;clear hN0;go_wp2_with fail
   clear g0 g1 g2 g3 g4 g5 p4;go_loopw [2,53] (fun s2 s53 wr=>∃(j:Nat) (q:Int),j<=v.list.length/\s53=.int .i64 j/\s2=.int .i64 q/\0<=q/\(V.countL (v.list.take j):Int)+q+1=left/\V.fineL (v.list.take j) (deep - 1)=true/\Below w.heap.size w wr) (fun _ s53 _=>v.list.length - (intOf s53).toNat)
   case atStart=>exact ⟨0,left - 1,Nat.zero_le _,rfl,rfl,by omega,by simp [V.countL],by simp [V.fineL],hbw3⟩
   case round=>
     obtain ⟨j,q,hj,rfl,rfl,hq0,hcn,hfn,hbel⟩:=hrel;clear hbw3;replace hcn:=Hd hcn;replace hfn:=Hd hfn;have hql:q<=left:=by have:=hcn.out;omega
     by_cases hlt:j<v.list.length
     · obtain ⟨x,b,o,a', cap', hxj,hmem,rfl,hx,d0,d1,d2,d3,d4,d5⟩:=hv.out.elem' hlt
       have hbw:=World.block_lt_of_cell? _ _ d0;have up:∀(q:Nat) u,w.cell? ⟨b,q,none⟩=some u->wr.cell? ⟨b,q,none⟩=some u:=fun q u h=>by rw [hbel.cell (by exact hbw)];exact h
       replace d0:=up _ _ d0;replace d1:=up _ _ d1;replace d2:=up _ _ d2;replace d3:=up _ _ d3;replace d4:=up _ _ d4;replace d5:=up _ _ d5;have hx' := hx.mono (Aa (hbel.trans ((Below.refl wr.heap.size wr).alloc (Nat.le_refl _) (.cells #[.int .i64 x.kind,.string x.text,.int .i64 x.int,.float .f64 x.real,.bool x.flag,.slice a' x.list.length cap'] 26) |>.mono hbel.size)));have hxs:=V.sizedL_mem hsl.out x hmem;have hxc:x.count<=100000:=by have:=V.count_mem hmem;have:=v.count_list_lt;omega
       have hts:v.list.take (j+1)=v.list.take j++[x]:=by
         obtain ⟨h1,h2⟩:=List.getElem?_eq_some_iff.1 hxj;rw [List.take_succ_eq_append_getElem h1,h2]
       have hal:Below w.heap.size w (wr.alloc (.cells #[.int .i64 x.kind,.string x.text,.int .i64 x.int,.float .f64 x.real,.bool x.flag,.slice a' x.list.length cap'] 26)):=hbel.alloc hbel.size _;replace hx' := Hd hx';replace hxs:=Hd hxs;replace hxj:=Hd hxj;replace hmem:=Hd hmem;replace hts:=Hd hts;replace hal:=Hd hal;clear up hx;by_cases h14:x.kind=14
       · have h14b:(x.kind == 14)=true:=by simpa using h14
         have hno:Bk v deep left=-1:=rightZ_elem hxj.out (Or.inl h14);replace h14:=Hd h14;replace hno:=Hd hno;go_wp2;go_ret;exact ⟨by rw [hno.out];rfl,hal.out⟩
       · have h14b:(x.kind == 14)=false:=by simpa using h14
         replace h14:=Hd h14;go_wp2_with fail
         refine (ih.out x hmem.out a' cap' (deep - 1) q _ hx'.out hxs.out hxc (by omega) (by omega) (by omega) (by omega)).mono ?_;rintro e w4 ⟨rfl,hb4⟩;have hbel4:Below w.heap.size w w4:=hal.out.trans (hb4.mono hal.out.size);have hlo:=rightZ_lo x (deep - 1) q;have hhi:=rightZ_hi x (deep - 1) q (by omega);obtain ⟨p,hp⟩:∃p,p=Bk x (deep - 1) q:=⟨_,rfl⟩;rw [<-hp] at hlo hhi ⊢;replace hp:=Hd hp;clear hb4 hbel d0 d1 d2 d3 d4 d5;by_cases hpn:p<0
         · have hno:Bk v deep left=-1:=rightZ_elem hxj.out (Or.inr (by
             have h1:left - 1 - (V.countL (v.list.take j):Int)=q:=by have:=hcn.out;omega
             rw [h1,<-hp.out];exact hpn))
           replace hno:=Hd hno;go_wp2;go_ret;exact ⟨by rw [hno.out];rfl,hbel4⟩
         · go_wp2
           go_roundw
           case rel=>
             have hst:=rightZ_step (x:=x) (d:=deep - 1) (q:=q) (by rw [<-hp.out];omega);refine ⟨j+1,p,by omega,by go_num,rfl,by omega,?_,?_,hbel4⟩
             · rw [hts.out,V.countL_append]
               simp only [V.countL,Nat.add_zero];have:=hcn.out;have h2:=hst.2;rw [<-hp.out] at h2;omega
             · rw [hts.out,V.fineL_snoc,hfn.out,hst.1]
               simp [h14.out]
           case measure=>simp [intOf];omega
     · have hjn:j=v.list.length:=by omega
       subst hjn;rw [List.take_length] at hcn hfn;go_wp2;go_ret;exact ⟨by rw [rightZ_all hok.out hdp.out hfn.out hq0 hcn.out];rfl,hbel⟩
def Eo (v:V):Int:=if v.fine 8=true/\v.count<=1000 then 0 else 31
theorem check_any (v:V) (a:Option Addr) (cap:Nat) (w:World) (hv:RV w.cell? (An v.kind v.text v.int v.real v.flag a v.list.length cap) v) (hs:v.sized) (hc:v.count<=100000) :
   Calls Tryz.prog 69 #[.agg #[.int .i64 v.kind,.string v.text,.int .i64 v.int,.float .f64 v.real,.bool v.flag,.slice a v.list.length cap]] w fun e w' => e=.returned (.int .i64 (Eo v))/\Below w.heap.size w w' := by
 have hal:=(Below.refl w.heap.size w).alloc (Nat.le_refl _) (.cells #[.int .i64 v.kind,.string v.text,.int .i64 v.int,.float .f64 v.real,.bool v.flag,.slice a v.list.length cap] 26)
 have hv' := hv.mono (Aa hal)
 replace hv' := Hd hv'
 replace hal:=Hd hal
 clear hv
 go_enter Tryz.func69,Tryz.ntmps69
 go_wp2_with fail
 refine (right_any v a cap 8 1000 _ hv'.out hs hc (by omega) (by omega) (by omega) (by omega)).mono ?_
 rintro e w1 ⟨rfl,hb⟩
 have hbel:=hal.out.trans (hb.mono (by simp))
 clear hb
 by_cases h:v.fine 8=true/\v.count<=1000
 · have h1:Bk v 8 1000=1000 - v.count:=by unfold Bk;rw [if_pos ⟨h.1,by omega⟩]
   have h2:Eo v=0:=by unfold Eo;rw [if_pos h]
   have h3:=h.2;rw [h1];replace h2:=Hd h2;clear h h1;have h4:¬((1000:Int) - v.count<0):=by omega
   go_wp2;go_ret;exact ⟨by rw [h2.out];rfl,hbel⟩
 · have h1:Bk v 8 1000=-1:=by unfold Bk;rw [if_neg (fun h' => h ⟨h'.1,by omega⟩)]
   have h2:Eo v=31:=by unfold Eo;rw [if_neg h]
   rw [h1];replace h2:=Hd h2;clear h h1;go_wp2;go_ret;exact ⟨by rw [h2.out];rfl,hbel⟩
mutual
def V.dep:V->Int
 | .mk k _ _ _ _ l=>if Ak k=true then V.depL l+1 else 0
def V.depL:List V->Int
 | []=>0
 | x :: l=>max (V.dep x) (V.depL l)
end
theorem V.dep_eq (v:V):v.dep=if Ak v.kind=true then V.depL v.list+1 else 0:=by cases v;rw [V.dep];rfl
theorem V.depL_snoc (l:List V) (x:V):V.depL (l++[x])=max (V.depL l) x.dep:=by
 induction l with
 | nil=>
   simp only [List.nil_append,V.depL];omega
 | cons y l ih=>simp only [List.cons_append,V.depL,ih];omega
theorem V.depL_nonneg (l:List V):0<=V.depL l:=by
 induction l with
 | nil=>simp [V.depL]
 | cons y l ih=>simp only [V.depL];omega
theorem V.dep_count (v:V):0<=v.dep/\v.dep<=v.count:=by
 induction v using V.ind with
 | h v ih=>
 have hl:V.depL v.list<=V.countL v.list:=by
   have key:∀l:List V,(∀x∈l,0<=x.dep/\x.dep<=x.count)->V.depL l<=V.countL l:=by
     intro l;induction l with
     | nil=>intro _;simp [V.depL,V.countL]
     | cons y l ih=>
       intro h;have h1:=h y (by simp);have h2:=ih (fun x hx=>h x (by simp [hx]));simp only [V.depL,V.countL];omega
   exact key _ ih
 have h0:=V.depL_nonneg v.list;rw [V.dep_eq,V.count_eq];split<;>omega
end Go.Proofs.YtagkgfniihiinaaGreatDoor
namespace Go.Proofs.YtagkgfniihiinaaGreatDoor
open Go.RowKit Go.Lib
def digB (x:UInt8):Bool:=decide (48<=x.toNat/\x.toNat<=57)
theorem dig_contains (x:UInt8):Ch.contains x=digB x:=by
 have:∀n:Nat,n<256->Ch.contains (UInt8.ofNat n)=digB (UInt8.ofNat n):=by decide +kernel
 have h:=this x.toNat x.toNat_lt;simpa using h
theorem dw_all {α:Type} (p:α->Bool) (l:List α):(∀x∈l.dropWhile p,p x=true) ↔ ∀x∈l,p x=true:=by
 induction l with
 | nil=>simp
 | cons y l ih=>
   by_cases h:p y=true
   · rw [List.dropWhile_cons_of_pos h,ih]
     simp [h]
   · rw [List.dropWhile_cons_of_neg h]
theorem dw_nil {α:Type} (p:α->Bool) (l:List α):l.dropWhile p=[] ↔ ∀x∈l,p x=true:=by
 induction l with
 | nil=>simp
 | cons y l ih=>
   by_cases h:p y=true
   · rw [List.dropWhile_cons_of_pos h,ih]
     simp [h]
   · rw [List.dropWhile_cons_of_neg h]
     simp [h]
theorem trimS_nil (l:List UInt8):(Lib.trimS l Ch).isEmpty=l.all digB:=by
 rw [Bool.eq_iff_iff,List.isEmpty_iff,List.all_eq_true];unfold Lib.trimS Lib.trimLeftS Lib.trimRightS;rw [dw_nil];constructor
 · intro h x hx
   have h2:∀y∈l.reverse.dropWhile (Ch.contains ·),Ch.contains y=true:=fun y hy=>h y (by simpa using hy)
   have h3:=(dw_all _ _).1 h2 x (by simpa using hx);rw [<-dig_contains];exact h3
 · intro h x hx
   have h1:x∈l:=by
     have:=(List.dropWhile_sublist (fun y=>Ch.contains y) (l:=l.reverse)).subset (by simpa using hx);simpa using this
   show Ch.contains x=true;rw [dig_contains];exact h x h1
def Ex (t:ByteArray):Nat:=if t.data.toList.head?=some 45 then 1 else 0
theorem bigB_eq (t:ByteArray):bigB t=(decide (Ex t≠t.size) && (t.data.toList.drop (Ex t)).all digB):=by
 have hp:Lib.trimPrefix t.data.toList [45]=t.data.toList.drop (Ex t):=by
   unfold Lib.trimPrefix Ex;cases h:t.data.toList with
   | nil=>simp [Lib.hasPrefix]
   | cons y l=>
     by_cases hy:y=45
     · subst hy;simp [Lib.hasPrefix]
     · simp [Lib.hasPrefix,hy]
       intro h'; exact absurd h'.symm hy
 unfold bigB;rw [hp,trimS_nil];congr 1;rw [Bool.eq_iff_iff];have hl:t.data.toList.length=t.size:=by simp
 have hle:Ex t<=t.size:=by
   unfold Ex;split
   · rename_i h
     cases hh:t.data.toList with
     | nil=>rw [hh] at h;cases h
     | cons y l=>rw [hh] at hl;simp at hl;omega
   · omega
 simp [List.drop_eq_nil_iff];omega
end Go.Proofs.YtagkgfniihiinaaGreatDoor
