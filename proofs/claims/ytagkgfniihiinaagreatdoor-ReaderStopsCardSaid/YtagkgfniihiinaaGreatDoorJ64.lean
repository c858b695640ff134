/- Is a value's text, or list, as its kind asks? -/
import Derived.Test.YtagkgfniihiinaaGreatDoorJ95
import Derived.Test.YtagkgfniihiinaaGreatDoorCrlfB
import Derived.Shelf.Strings.SlTrimAscii
set_option linter.all false
set_option maxHeartbeats 6400000
namespace Go.Proofs.YtagkgfniihiinaaGreatDoor
open Go.RowKit Go.Shelf Go.Lib
abbrev Cr:List UInt8:=[48,49,50,51,52,53,54,55,56,57]
def bigB (s:ByteArray):Bool:=!(Lib.trimPrefix s.data.toList [45]).isEmpty && (Lib.trimS (Lib.trimPrefix s.data.toList [45]) Cr).isEmpty
theorem trim_any (s:ByteArray) (w:World) (hs:s.size<=9223372036854775807):Calls Tryz.prog 167 #[.string s,.string ⟨#[48,49,50,51,52,53,54,55,56,57]⟩] w fun e w' => e=.returned (.string ⟨(Lib.trimS s.data.toList Cr).toArray⟩)/\Below w.heap.size w w' :=
 Any.strings_Trim_laid Tryz.lays160 (by kernel_rfl) s ⟨#[48,49,50,51,52,53,54,55,56,57]⟩ w hs (by decide) (ascii_of_all (by decide))
theorem trimPrefix_len (l p:List UInt8):(Lib.trimPrefix l p).length<=l.length:=by
 unfold Lib.trimPrefix;split
 ·simp
 ·exact Nat.le_refl _
theorem big_any (s:ByteArray) (w:World) (hs:s.size<=9223372036854775807):Calls Tryz.prog 132 #[.string s] w fun e w' => e=.returned (.bool (bigB s))/\Below w.heap.size w w' := by
 have hp:=Tryz.strings_TrimPrefix s ⟨#[45]⟩ w;have hl:=trimPrefix_len s.data.toList [45];have e1:(ByteArray.mk #[45]).data.toList=[45]:=rfl;rw [e1] at hp;unfold bigB;have b:s.data.toList.length=s.size:=by simp
 rw [b] at hl;obtain ⟨t,ht⟩:∃t:ByteArray,t=⟨(Lib.trimPrefix s.data.toList [45]).toArray⟩:=⟨_,rfl⟩;have c : Lib.trimPrefix s.data.toList [45]=t.data.toList:=by rw [ht]
 rw [c] at hl ⊢;rw [<-ht] at hp
 have a:=trim_any t w (by have:t.data.toList.length=t.size:=by simp
                          omega)
 have d:t.toList=t.data.toList:=Lib.toList_data t;obtain ⟨u,hu⟩:∃u:ByteArray,u=⟨(Lib.trimS t.data.toList Cr).toArray⟩:=⟨_,rfl⟩;have f : Lib.trimS t.data.toList Cr=u.data.toList:=by rw [hu]
 rw [f] at ⊢;rw [<-hu] at a;have g:u.toList=u.data.toList:=Lib.toList_data u;rw [<-d,<-g];replace hp:=Hd hp;replace a:=Hd a;clear ht c hl e1 b d hu f g;by_cases h1:t.toList=[]
 · have i : t.toList.isEmpty=true:=by simp [h1]
   have h : (!t.toList.isEmpty)=false:=by simp [h1]
   go_enter Tryz.func132,Tryz.ntmps132
   go_wp2_with (go_at_call 166;refine hp.out.mono ?_;rintro e w' ⟨rfl,hw⟩;rw [hw])
   go_ret;exact ⟨by simp [h1],Below.refl _ _⟩
 · have i : t.toList.isEmpty=false:=by simp [h1]
   have h : (!t.toList.isEmpty)=true:=by simp [h1]
   go_enter Tryz.func132,Tryz.ntmps132
   go_wp2_with (first | (go_at_call 166;refine hp.out.mono ?_;rintro e w' ⟨rfl,hw⟩;rw [hw]) | (go_at_call 167;refine a.out.mono ?_;rintro e w1 ⟨rfl,hb⟩))
   go_ret;exact ⟨by simp [h1],hb⟩
def Ed (s:ByteArray):Bool:=if h:3<s.size then s[3]'h == 58 else false
def B1 (k:Int) (t:ByteArray) (n:Nat):Bool:=
 if k=1\/k=2 then !E5 t else if k=9 then bigB t else if k=11 then Ed t else if k=12 then decide (n % 2=0) else if k=14 then decide (0<n) else true
theorem Gj (k:Int) (t:ByteArray) (i:Int) (r:Nat) (f:Bool) (a:Option Addr) (n cap:Nat) (w:World) (ht:t.size<=9223372036854775807) (hn:n<=100000) :
  Calls Tryz.prog 107 #[.agg #[.int .i64 k,.string t,.int .i64 i,.float .f64 r,.bool f,.slice a n cap]] w fun e w' => e=.returned (.bool (B1 k t n))/\Below w.heap.size w w' := by
 have c:=Hd (fun (o:Obj)=>(Below.refl w.heap.size w).alloc (Nat.le_refl _) o);have m:=Hd (fun (W:World)=>cany_any t W ht);have p:=Hd (fun (W:World)=>big_any t W ht);rcases (by omega:k=1\/k=2\/k=9\/k=11\/k=12\/k=14\/(k≠1/\k≠2/\k≠9/\k≠11/\k≠12/\k≠14)) with rfl | rfl | rfl | rfl | rfl | rfl | h
 ·rw [show B1 1 t n=!E5 t by simp [B1]]
  go_enter Tryz.func107,Tryz.ntmps107
  go_wp2_with fail
  refine (m.out _).mono ?_;rintro e w1 ⟨rfl,hb⟩;have d:=(c.out (.cells #[.int .i64 1,.string t,.int .i64 i,.float .f64 r,.bool f,.slice a n cap] 26)).trans (hb.mono (by simp));go_wp2;go_ret;exact ⟨rfl,d⟩
 ·rw [show B1 2 t n=!E5 t by simp [B1]]
  go_enter Tryz.func107,Tryz.ntmps107
  go_wp2_with fail
  refine (m.out _).mono ?_;rintro e w1 ⟨rfl,hb⟩;have d:=(c.out (.cells #[.int .i64 2,.string t,.int .i64 i,.float .f64 r,.bool f,.slice a n cap] 26)).trans (hb.mono (by simp));go_wp2;go_ret;exact ⟨rfl,d⟩
 ·rw [show B1 9 t n=bigB t by simp [B1]]
  go_enter Tryz.func107,Tryz.ntmps107
  go_wp2_with fail
  refine (p.out _).mono ?_;rintro e w1 ⟨rfl,hb⟩;have d:=(c.out (.cells #[.int .i64 9,.string t,.int .i64 i,.float .f64 r,.bool f,.slice a n cap] 26)).trans (hb.mono (by simp));go_wp2;go_ret;exact ⟨rfl,d⟩
 ·rw [show B1 11 t n=Ed t by simp [B1]]
  by_cases h3:3<t.size
  ·obtain ⟨b,hb⟩:∃b,t[3]'h3=b:=⟨_,rfl⟩
   rw [show Ed t=(b == 58) by rw [Ed,dif_pos h3,hb]];have q:(3:Int)<(t.size:Int):=by omega
   go_enter Tryz.func107,Tryz.ntmps107
   go_wp2;go_ret;refine ⟨?_,c.out _⟩;have:((b.toNat:Int) == 58)=(b == 58):=by
    rw [Bool.eq_iff_iff];simp;constructor
    ·intro h;exact UInt8.toNat_inj.1 (by simpa using (by omega:b.toNat=58))
    ·intro h;subst h;rfl
   simp [<-this]
  ·rw [show Ed t=false by rw [Ed,dif_neg h3]]
   have q:¬(3:Int)<(t.size:Int):=by omega
   go_enter Tryz.func107,Tryz.ntmps107
   go_wp2;go_ret;exact ⟨rfl,c.out _⟩
 ·rw [show B1 12 t n=decide (n % 2=0) by simp [B1]]
  go_enter Tryz.func107,Tryz.ntmps107
  go_wp2;go_ret;refine ⟨?_,c.out _⟩;have:(((n:Int) % 2) == 0)=decide (n % 2=0):=by
   rw [Bool.eq_iff_iff];simp;omega
  simp [<-this]
 ·rw [show B1 14 t n=decide (0<n) by simp [B1]]
  go_enter Tryz.func107,Tryz.ntmps107
  go_wp2;go_ret;refine ⟨?_,c.out _⟩;simp
 ·obtain ⟨q1,q2,q9,g,j,l⟩:=h
  rw [show B1 k t n=true by simp [B1,q1,q2,q9,g,j,l]];have h1:(k == 1)=false:=by simpa using q1
  have h2:(k == 2)=false:=by simpa using q2
  have h9:(k == 9)=false:=by simpa using q9
  have h11:(k == 11)=false:=by simpa using g
  have h12:(k == 12)=false:=by simpa using j
  have h14:(k == 14)=false:=by simpa using l
  clear q1 q2 q9 g j l
  go_enter Tryz.func107,Tryz.ntmps107
  go_wp2;go_ret;exact ⟨rfl,c.out _⟩
end Go.Proofs.YtagkgfniihiinaaGreatDoor
namespace Go.Proofs.YtagkgfniihiinaaGreatDoor
open Go.RowKit
def okV (v:V):Bool:=Cm v.kind && B4 v && B1 v.kind v.text v.list.length && decide (v.text.size<=4096)
mutual
def V.fine:V->Int->Bool
 | .mk k t i r f l,d=>okV (.mk k t i r f l) && (!Al k || decide (1<=d)) && V.fineL l (d - 1)
def V.fineL:List V->Int->Bool
 | [],_=>true
 | x :: l,d=>decide (x.kind≠14) && V.fine x d && V.fineL l d
end
mutual
def V.sized:V->Prop
 | .mk _ t _ _ _ l=>t.size<=9223372036854775807/\V.sizedL l
def V.sizedL:List V->Prop
 | []=>True
 | x :: l=>V.sized x/\V.sizedL l
end
theorem V.fine_eq (v:V) (d:Int):v.fine d=(okV v && (!Al v.kind || decide (1<=d)) && V.fineL v.list (d - 1)):=by cases v;simp only [V.fine,V.kind,V.list]
theorem V.sized_eq (v:V):v.sized ↔ v.text.size<=9223372036854775807/\V.sizedL v.list:=by cases v;simp only [V.sized,V.text,V.list]
theorem V.sizedL_mem {l:List V} (h:V.sizedL l):∀x∈l,x.sized:=by
 induction l with
 | nil=>intro x hx;cases hx
 | cons y l ih=>
  intro x hx;rcases List.mem_cons.1 hx with rfl | hx
  ·exact h.1
  ·exact ih h.2 x hx
theorem V.fineL_snoc (l:List V) (x:V) (d:Int):V.fineL (l++[x]) d=(V.fineL l d && (decide (x.kind≠14) && V.fine x d)):=by
 induction l with
 | nil=>simp [V.fineL]
 | cons y l ih=>simp only [List.cons_append,V.fineL,ih,Bool.and_assoc]
theorem V.fineL_take {l:List V} {d:Int} (h:V.fineL l d=true) (j:Nat):V.fineL (l.take j) d=true:=by
 induction l generalizing j with
 | nil=>simp [V.fineL]
 | cons y l ih=>
  simp only [V.fineL,Bool.and_eq_true] at h;cases j with
  | zero=>simp [V.fineL]
  | succ j=>simp only [List.take_succ_cons,V.fineL,Bool.and_eq_true];exact ⟨h.1,ih h.2 j⟩
theorem V.countL_take (l:List V) (j:Nat):V.countL (l.take j)<=V.countL l:=by
 induction l generalizing j with
 | nil=>simp
 | cons y l ih=>
  cases j with
  | zero=>simp [V.countL]
  | succ j=>simp only [List.take_succ_cons,V.countL];have:=ih j;omega
theorem V.count_eq (v:V):v.count=V.countL v.list+1:=by cases v;simp only [V.count,V.list]
def Bx (v:V) (deep left:Int):Int:=if v.fine deep=true/\(v.count:Int)<=left then left - v.count else -1
theorem Er {v:V} {deep left:Int} (h:okV v=false\/left<1\/(Al v.kind=true/\deep<1)):Bx v deep left=-1:=by
 unfold Bx;rw [if_neg];rintro ⟨h1,h2⟩;rw [V.fine_eq] at h1;simp only [Bool.and_eq_true,Bool.or_eq_true,Bool.not_eq_true', decide_eq_true_eq] at h1;have:=v.count_pos;rcases h with h | h | ⟨h,h'⟩
 ·rw [h] at h1;simp at h1
 ·omega
 ·rcases h1.1.2 with h3 | h3
  ·rw [h] at h3;cases h3
  ·omega
theorem rightZ_elem {v x:V} {deep left:Int} {j:Nat} (hx:v.list[j]?=some x) (h:x.kind=14\/Bx x (deep - 1) (left - 1 - V.countL (v.list.take j))<0):Bx v deep left=-1:=by
 unfold Bx;rw [if_neg];rintro ⟨h1,h2⟩;rw [V.fine_eq] at h1;simp only [Bool.and_eq_true] at h1;obtain ⟨hj,a⟩:=List.getElem?_eq_some_iff.1 hx;have ht:=V.fineL_take h1.2 (j+1);have hc:=V.countL_take v.list (j+1);rw [List.take_succ_eq_append_getElem hj,a] at ht hc;rw [V.fineL_snoc] at ht;rw [V.countL_append] at hc;simp only [V.countL,Nat.add_zero] at hc;simp only [Bool.and_eq_true,decide_eq_true_eq] at ht;rw [V.count_eq] at h2;rcases h with h | h
 ·exact ht.2.1 h
 ·unfold Bx at h
  rw [if_pos ⟨ht.2.2,by omega⟩] at h;omega
theorem rightZ_all {v:V} {deep left q:Int} (hok:okV v=true) (hd:Al v.kind=true->1<=deep) (hf:V.fineL v.list (deep - 1)=true) (hq:0<=q) (hc:(V.countL v.list:Int)+q+1=left):Bx v deep left=q:=by
 unfold Bx;rw [if_pos]
 ·rw [V.count_eq];omega
 ·rw [V.fine_eq,hok,hf,V.count_eq]
  refine ⟨?_,by omega⟩;cases hl:Al v.kind
  ·simp
  ·simp [hd hl]
theorem rightZ_lo (v:V) (deep left:Int):-1<=Bx v deep left:=by unfold Bx;split<;>omega
theorem rightZ_hi (v:V) (deep left:Int) (h:-1<=left):Bx v deep left<=left:=by unfold Bx;split<;>omega
theorem rightZ_step {x:V} {d q:Int} (h:0<=Bx x d q):V.fine x d=true/\Bx x d q=q - x.count:=by
 unfold Bx at h ⊢;split at h
 ·rename_i h1;rw [if_pos h1];exact ⟨h1.1,rfl⟩
 ·omega
set_option maxRecDepth 100000 in
theorem right_any (v:V):∀(a:Option Addr) (cap:Nat) (deep left:Int) (w:World),RV w.cell? (Ao v.kind v.text v.int v.real v.flag a v.list.length cap) v->v.sized->v.count<=100000->0<=deep->deep<=1000->left<=100000->-10<=left ->
  Calls Tryz.prog 89 #[.agg #[.int .i64 v.kind,.string v.text,.int .i64 v.int,.float .f64 v.real,.bool v.flag,.slice a v.list.length cap],.int .i64 deep,.int .i64 left] w fun e w' => e=.returned (.int .i64 (Bx v deep left))/\Below w.heap.size w w' := by
 induction v using V.ind with
 | h v ih=>
 intro a cap deep left w hv aa hcnt hd0 hd1 ad aq;replace ih:=Hd ih;have ah:=((V.sized_eq v).1 aa).1;have ax:=Hd (((V.sized_eq v).1 aa).2);have ai:v.list.length<=100000:=by have:=V.length_le v.list;have:=v.count_list_lt;omega
 obtain ⟨W1,hW1⟩:∃W1,W1=w.alloc (.cells #[.int .i64 v.kind,.string v.text,.int .i64 v.int,.float .f64 v.real,.bool v.flag,.slice a v.list.length cap] 26):=⟨_,rfl⟩;have y:Below w.heap.size w W1:=by rw [hW1];exact (Below.refl _ _).alloc (Nat.le_refl _) _
 have z:W1.heap.size=w.heap.size+1:=by rw [hW1];simp
 have hB:∀q u,#[.int .i64 v.kind,.string v.text,.int .i64 v.int,.float .f64 v.real,.bool v.flag,.slice a v.list.length cap][q]?=some u->W1.cell? ⟨w.heap.size,q,none⟩=some u:=fun q u h=>by rw [hW1,World.cell?_alloc_new];exact h
 replace z:=Hd z;replace hB:=Hd hB;replace hW1:=Hd hW1;replace y:=Hd y;replace hv:=Hd hv;clear aa;cases hk:Cm v.kind with
 | false=>
  rw [Er (Or.inl (by simp [okV,hk]))]
  go_enter Tryz.func89,Tryz.ntmps89
  go_wp2_with fail
  rw [<-hW1.out];refine (Fz v.kind W1).mono ?_;rintro e w1 ⟨rfl,f⟩;have i:Below w.heap.size w w1:=y.out.trans (f.mono (by rw [z.out];omega));have g0:=Aa f _ _ (hB.out 0 (.int .i64 v.kind) rfl);have g1:=Aa f _ _ (hB.out 1 (.string v.text) rfl);have g2:=Aa f _ _ (hB.out 2 (.int .i64 v.int) rfl);have g3:=Aa f _ _ (hB.out 3 (.float .f64 v.real) rfl);have g4:=Aa f _ _ (hB.out 4 (.bool v.flag) rfl);have g5:=Aa f _ _ (hB.out 5 (.slice a v.list.length cap) rfl);have ad:w.heap.size<w1.heap.size:=World.block_lt_of_cell? _ _ g0;rw [hk];go_wp2;go_ret;exact ⟨rfl,i.alloc i.size _⟩
 | true=>
 cases hN:B4 v with
 | false=>
  rw [Er (Or.inl (by simp [okV,hN]))]
  go_enter Tryz.func89,Tryz.ntmps89
  go_wp2_with fail
  rw [<-hW1.out];refine (Fz v.kind W1).mono ?_;rintro e w1 ⟨rfl,f⟩;have i:Below w.heap.size w w1:=y.out.trans (f.mono (by rw [z.out];omega));have g0:=Aa f _ _ (hB.out 0 (.int .i64 v.kind) rfl);have g1:=Aa f _ _ (hB.out 1 (.string v.text) rfl);have g2:=Aa f _ _ (hB.out 2 (.int .i64 v.int) rfl);have g3:=Aa f _ _ (hB.out 3 (.float .f64 v.real) rfl);have g4:=Aa f _ _ (hB.out 4 (.bool v.flag) rfl);have g5:=Aa f _ _ (hB.out 5 (.slice a v.list.length cap) rfl);have ad:w.heap.size<w1.heap.size:=World.block_lt_of_cell? _ _ g0;rw [hk];go_wp2_with fail
  refine (Di v a cap _).mono ?_;rintro e w2 ⟨rfl,m⟩;have k:Below w1.heap.size w1 w2:=((Below.refl w1.heap.size w1).alloc (Nat.le_refl _) (.cells #[.bool (Bt v.kind),.bool (numK v.kind),.bool (Bz v.kind),.bool (B3 v.kind),.bool (Al v.kind)] 146)).trans (m.mono (by simp));have p4:w2.cell? ⟨w1.heap.size,4,none⟩=some (.bool (Al v.kind)):=Aa m _ _ (by simp);have c:=f.trans (k.mono f.size);have l:Below w.heap.size w w2:=i.trans (k.mono i.size);clear g0 g1 g2 g3 g4 g5 m;have g0:=Aa c _ _ (hB.out 0 (.int .i64 v.kind) rfl);have g1:=Aa c _ _ (hB.out 1 (.string v.text) rfl);have g2:=Aa c _ _ (hB.out 2 (.int .i64 v.int) rfl);have g3:=Aa c _ _ (hB.out 3 (.float .f64 v.real) rfl);have g4:=Aa c _ _ (hB.out 4 (.bool v.flag) rfl);have g5:=Aa c _ _ (hB.out 5 (.slice a v.list.length cap) rfl);rw [hN];go_wp2;go_ret;exact ⟨rfl,l⟩
 | true=>
 cases hF:B1 v.kind v.text v.list.length with
 | false=>
  rw [Er (Or.inl (by simp [okV,hF]))]
  go_enter Tryz.func89,Tryz.ntmps89
  go_wp2_with fail
  rw [<-hW1.out];refine (Fz v.kind W1).mono ?_;rintro e w1 ⟨rfl,f⟩;have i:Below w.heap.size w w1:=y.out.trans (f.mono (by rw [z.out];omega));have g0:=Aa f _ _ (hB.out 0 (.int .i64 v.kind) rfl);have g1:=Aa f _ _ (hB.out 1 (.string v.text) rfl);have g2:=Aa f _ _ (hB.out 2 (.int .i64 v.int) rfl);have g3:=Aa f _ _ (hB.out 3 (.float .f64 v.real) rfl);have g4:=Aa f _ _ (hB.out 4 (.bool v.flag) rfl);have g5:=Aa f _ _ (hB.out 5 (.slice a v.list.length cap) rfl);have ad:w.heap.size<w1.heap.size:=World.block_lt_of_cell? _ _ g0;rw [hk];go_wp2_with fail
  refine (Di v a cap _).mono ?_;rintro e w2 ⟨rfl,m⟩;have k:Below w1.heap.size w1 w2:=((Below.refl w1.heap.size w1).alloc (Nat.le_refl _) (.cells #[.bool (Bt v.kind),.bool (numK v.kind),.bool (Bz v.kind),.bool (B3 v.kind),.bool (Al v.kind)] 146)).trans (m.mono (by simp));have p4:w2.cell? ⟨w1.heap.size,4,none⟩=some (.bool (Al v.kind)):=Aa m _ _ (by simp);have c:=f.trans (k.mono f.size);have l:Below w.heap.size w w2:=i.trans (k.mono i.size);clear g0 g1 g2 g3 g4 g5 m;have g0:=Aa c _ _ (hB.out 0 (.int .i64 v.kind) rfl);have g1:=Aa c _ _ (hB.out 1 (.string v.text) rfl);have g2:=Aa c _ _ (hB.out 2 (.int .i64 v.int) rfl);have g3:=Aa c _ _ (hB.out 3 (.float .f64 v.real) rfl);have g4:=Aa c _ _ (hB.out 4 (.bool v.flag) rfl);have g5:=Aa c _ _ (hB.out 5 (.slice a v.list.length cap) rfl);rw [hN];go_wp2_with fail
  refine (Gj v.kind v.text v.int v.real v.flag a v.list.length cap _ ah ai).mono ?_;rintro e w3 ⟨rfl,n⟩;have p4:=Aa n _ _ p4;have g:=c.trans (n.mono c.size);have r:Below w.heap.size w w3:=l.trans (n.mono l.size);clear g0 g1 g2 g3 g4 g5;have g0:=Aa g _ _ (hB.out 0 (.int .i64 v.kind) rfl);have g1:=Aa g _ _ (hB.out 1 (.string v.text) rfl);have g2:=Aa g _ _ (hB.out 2 (.int .i64 v.int) rfl);have g3:=Aa g _ _ (hB.out 3 (.float .f64 v.real) rfl);have g4:=Aa g _ _ (hB.out 4 (.bool v.flag) rfl);have g5:=Aa g _ _ (hB.out 5 (.slice a v.list.length cap) rfl);rw [hF];go_wp2;go_ret;exact ⟨rfl,r⟩
 | true=>
 by_cases hbig:v.text.size<=4096
 case neg=>
  rw [Er (Or.inl (by simp [okV,hbig]))];have ay:(4096:Int)<(v.text.size:Int):=by omega
  go_enter Tryz.func89,Tryz.ntmps89
  go_wp2_with fail
  rw [<-hW1.out];refine (Fz v.kind W1).mono ?_;rintro e w1 ⟨rfl,f⟩;have i:Below w.heap.size w w1:=y.out.trans (f.mono (by rw [z.out];omega));have g0:=Aa f _ _ (hB.out 0 (.int .i64 v.kind) rfl);have g1:=Aa f _ _ (hB.out 1 (.string v.text) rfl);have g2:=Aa f _ _ (hB.out 2 (.int .i64 v.int) rfl);have g3:=Aa f _ _ (hB.out 3 (.float .f64 v.real) rfl);have g4:=Aa f _ _ (hB.out 4 (.bool v.flag) rfl);have g5:=Aa f _ _ (hB.out 5 (.slice a v.list.length cap) rfl);have ad:w.heap.size<w1.heap.size:=World.block_lt_of_cell? _ _ g0;rw [hk];go_wp2_with fail
  refine (Di v a cap _).mono ?_;rintro e w2 ⟨rfl,m⟩;have k:Below w1.heap.size w1 w2:=((Below.refl w1.heap.size w1).alloc (Nat.le_refl _) (.cells #[.bool (Bt v.kind),.bool (numK v.kind),.bool (Bz v.kind),.bool (B3 v.kind),.bool (Al v.kind)] 146)).trans (m.mono (by simp));have p4:w2.cell? ⟨w1.heap.size,4,none⟩=some (.bool (Al v.kind)):=Aa m _ _ (by simp);have c:=f.trans (k.mono f.size);have l:Below w.heap.size w w2:=i.trans (k.mono i.size);clear g0 g1 g2 g3 g4 g5 m;have g0:=Aa c _ _ (hB.out 0 (.int .i64 v.kind) rfl);have g1:=Aa c _ _ (hB.out 1 (.string v.text) rfl);have g2:=Aa c _ _ (hB.out 2 (.int .i64 v.int) rfl);have g3:=Aa c _ _ (hB.out 3 (.float .f64 v.real) rfl);have g4:=Aa c _ _ (hB.out 4 (.bool v.flag) rfl);have g5:=Aa c _ _ (hB.out 5 (.slice a v.list.length cap) rfl);rw [hN];go_wp2_with fail
  refine (Gj v.kind v.text v.int v.real v.flag a v.list.length cap _ ah ai).mono ?_;rintro e w3 ⟨rfl,n⟩;have p4:=Aa n _ _ p4;have g:=c.trans (n.mono c.size);have r:Below w.heap.size w w3:=l.trans (n.mono l.size);clear g0 g1 g2 g3 g4 g5;have g0:=Aa g _ _ (hB.out 0 (.int .i64 v.kind) rfl);have g1:=Aa g _ _ (hB.out 1 (.string v.text) rfl);have g2:=Aa g _ _ (hB.out 2 (.int .i64 v.int) rfl);have g3:=Aa g _ _ (hB.out 3 (.float .f64 v.real) rfl);have g4:=Aa g _ _ (hB.out 4 (.bool v.flag) rfl);have g5:=Aa g _ _ (hB.out 5 (.slice a v.list.length cap) rfl);rw [hF];go_wp2;go_ret;exact ⟨rfl,r⟩
 have ay:¬(4096:Int)<(v.text.size:Int):=by omega
 have ag:okV v=true:=by simp [okV,hk,hN,hF,hbig]
 replace ag:=Hd ag;by_cases hlf:left<1
 ·rw [Er (Or.inr (Or.inl hlf))]
  go_enter Tryz.func89,Tryz.ntmps89
  go_wp2_with fail
  rw [<-hW1.out];refine (Fz v.kind W1).mono ?_;rintro e w1 ⟨rfl,f⟩;have i:Below w.heap.size w w1:=y.out.trans (f.mono (by rw [z.out];omega));have g0:=Aa f _ _ (hB.out 0 (.int .i64 v.kind) rfl);have g1:=Aa f _ _ (hB.out 1 (.string v.text) rfl);have g2:=Aa f _ _ (hB.out 2 (.int .i64 v.int) rfl);have g3:=Aa f _ _ (hB.out 3 (.float .f64 v.real) rfl);have g4:=Aa f _ _ (hB.out 4 (.bool v.flag) rfl);have g5:=Aa f _ _ (hB.out 5 (.slice a v.list.length cap) rfl);have ad:w.heap.size<w1.heap.size:=World.block_lt_of_cell? _ _ g0;rw [hk];go_wp2_with fail
  refine (Di v a cap _).mono ?_;rintro e w2 ⟨rfl,m⟩;have k:Below w1.heap.size w1 w2:=((Below.refl w1.heap.size w1).alloc (Nat.le_refl _) (.cells #[.bool (Bt v.kind),.bool (numK v.kind),.bool (Bz v.kind),.bool (B3 v.kind),.bool (Al v.kind)] 146)).trans (m.mono (by simp));have p4:w2.cell? ⟨w1.heap.size,4,none⟩=some (.bool (Al v.kind)):=Aa m _ _ (by simp);have c:=f.trans (k.mono f.size);have l:Below w.heap.size w w2:=i.trans (k.mono i.size);clear g0 g1 g2 g3 g4 g5 m;have g0:=Aa c _ _ (hB.out 0 (.int .i64 v.kind) rfl);have g1:=Aa c _ _ (hB.out 1 (.string v.text) rfl);have g2:=Aa c _ _ (hB.out 2 (.int .i64 v.int) rfl);have g3:=Aa c _ _ (hB.out 3 (.float .f64 v.real) rfl);have g4:=Aa c _ _ (hB.out 4 (.bool v.flag) rfl);have g5:=Aa c _ _ (hB.out 5 (.slice a v.list.length cap) rfl);rw [hN];go_wp2_with fail
  refine (Gj v.kind v.text v.int v.real v.flag a v.list.length cap _ ah ai).mono ?_;rintro e w3 ⟨rfl,n⟩;have p4:=Aa n _ _ p4;have g:=c.trans (n.mono c.size);have r:Below w.heap.size w w3:=l.trans (n.mono l.size);clear g0 g1 g2 g3 g4 g5;have g0:=Aa g _ _ (hB.out 0 (.int .i64 v.kind) rfl);have g1:=Aa g _ _ (hB.out 1 (.string v.text) rfl);have g2:=Aa g _ _ (hB.out 2 (.int .i64 v.int) rfl);have g3:=Aa g _ _ (hB.out 3 (.float .f64 v.real) rfl);have g4:=Aa g _ _ (hB.out 4 (.bool v.flag) rfl);have g5:=Aa g _ _ (hB.out 5 (.slice a v.list.length cap) rfl);rw [hF];clear ag hbig hF hN hk;go_wp2;go_ret;exact ⟨rfl,r⟩
 by_cases hdd:Al v.kind=true/\deep<1
 ·obtain ⟨t,ab⟩:=hdd
  rw [Er (Or.inr (Or.inr ⟨t,ab⟩))];replace t:=Hd t
  go_enter Tryz.func89,Tryz.ntmps89
  go_wp2_with fail
  rw [<-hW1.out];refine (Fz v.kind W1).mono ?_;rintro e w1 ⟨rfl,f⟩;have i:Below w.heap.size w w1:=y.out.trans (f.mono (by rw [z.out];omega));have g0:=Aa f _ _ (hB.out 0 (.int .i64 v.kind) rfl);have g1:=Aa f _ _ (hB.out 1 (.string v.text) rfl);have g2:=Aa f _ _ (hB.out 2 (.int .i64 v.int) rfl);have g3:=Aa f _ _ (hB.out 3 (.float .f64 v.real) rfl);have g4:=Aa f _ _ (hB.out 4 (.bool v.flag) rfl);have g5:=Aa f _ _ (hB.out 5 (.slice a v.list.length cap) rfl);have ad:w.heap.size<w1.heap.size:=World.block_lt_of_cell? _ _ g0;rw [hk];go_wp2_with fail
  refine (Di v a cap _).mono ?_;rintro e w2 ⟨rfl,m⟩;have k:Below w1.heap.size w1 w2:=((Below.refl w1.heap.size w1).alloc (Nat.le_refl _) (.cells #[.bool (Bt v.kind),.bool (numK v.kind),.bool (Bz v.kind),.bool (B3 v.kind),.bool (Al v.kind)] 146)).trans (m.mono (by simp));have p4:w2.cell? ⟨w1.heap.size,4,none⟩=some (.bool (Al v.kind)):=Aa m _ _ (by simp);have c:=f.trans (k.mono f.size);have l:Below w.heap.size w w2:=i.trans (k.mono i.size);clear g0 g1 g2 g3 g4 g5 m;have g0:=Aa c _ _ (hB.out 0 (.int .i64 v.kind) rfl);have g1:=Aa c _ _ (hB.out 1 (.string v.text) rfl);have g2:=Aa c _ _ (hB.out 2 (.int .i64 v.int) rfl);have g3:=Aa c _ _ (hB.out 3 (.float .f64 v.real) rfl);have g4:=Aa c _ _ (hB.out 4 (.bool v.flag) rfl);have g5:=Aa c _ _ (hB.out 5 (.slice a v.list.length cap) rfl);rw [hN];go_wp2_with fail
  refine (Gj v.kind v.text v.int v.real v.flag a v.list.length cap _ ah ai).mono ?_;rintro e w3 ⟨rfl,n⟩;have p4:=Aa n _ _ p4;have g:=c.trans (n.mono c.size);have r:Below w.heap.size w w3:=l.trans (n.mono l.size);clear g0 g1 g2 g3 g4 g5;have g0:=Aa g _ _ (hB.out 0 (.int .i64 v.kind) rfl);have g1:=Aa g _ _ (hB.out 1 (.string v.text) rfl);have g2:=Aa g _ _ (hB.out 2 (.int .i64 v.int) rfl);have g3:=Aa g _ _ (hB.out 3 (.float .f64 v.real) rfl);have g4:=Aa g _ _ (hB.out 4 (.bool v.flag) rfl);have g5:=Aa g _ _ (hB.out 5 (.slice a v.list.length cap) rfl);rw [hF];rw [t.out] at p4;clear ag hbig hF hN hk;go_wp2;go_ret;exact ⟨rfl,r⟩
 have ab:Al v.kind=true->1<=deep:=fun h=>by
  rcases (by omega:1<=deep\/deep<1) with h1 | h1
  ·exact h1
  ·exact absurd ⟨h,h1⟩ hdd
 have az:(Al v.kind && decide (deep<1))=false:=by
  cases h:Al v.kind
  ·rfl
  ·have:=ab h;simp;omega
 replace hdd:=Hd hdd;replace ab:=Hd ab
 go_enter Tryz.func89,Tryz.ntmps89
 go_wp2_with fail
 rw [<-hW1.out];refine (Fz v.kind W1).mono ?_;rintro e w1 ⟨rfl,f⟩;have i:Below w.heap.size w w1:=y.out.trans (f.mono (by rw [z.out];omega));have g0:=Aa f _ _ (hB.out 0 (.int .i64 v.kind) rfl);have g1:=Aa f _ _ (hB.out 1 (.string v.text) rfl);have g2:=Aa f _ _ (hB.out 2 (.int .i64 v.int) rfl);have g3:=Aa f _ _ (hB.out 3 (.float .f64 v.real) rfl);have g4:=Aa f _ _ (hB.out 4 (.bool v.flag) rfl);have g5:=Aa f _ _ (hB.out 5 (.slice a v.list.length cap) rfl);have ad:w.heap.size<w1.heap.size:=World.block_lt_of_cell? _ _ g0;rw [hk];go_wp2_with fail
 refine (Di v a cap _).mono ?_;rintro e w2 ⟨rfl,m⟩;have k:Below w1.heap.size w1 w2:=((Below.refl w1.heap.size w1).alloc (Nat.le_refl _) (.cells #[.bool (Bt v.kind),.bool (numK v.kind),.bool (Bz v.kind),.bool (B3 v.kind),.bool (Al v.kind)] 146)).trans (m.mono (by simp));have p4:w2.cell? ⟨w1.heap.size,4,none⟩=some (.bool (Al v.kind)):=Aa m _ _ (by simp);have c:=f.trans (k.mono f.size);have l:Below w.heap.size w w2:=i.trans (k.mono i.size);clear g0 g1 g2 g3 g4 g5 m;have g0:=Aa c _ _ (hB.out 0 (.int .i64 v.kind) rfl);have g1:=Aa c _ _ (hB.out 1 (.string v.text) rfl);have g2:=Aa c _ _ (hB.out 2 (.int .i64 v.int) rfl);have g3:=Aa c _ _ (hB.out 3 (.float .f64 v.real) rfl);have g4:=Aa c _ _ (hB.out 4 (.bool v.flag) rfl);have g5:=Aa c _ _ (hB.out 5 (.slice a v.list.length cap) rfl);rw [hN];go_wp2_with fail
 refine (Gj v.kind v.text v.int v.real v.flag a v.list.length cap _ ah ai).mono ?_;rintro e w3 ⟨rfl,n⟩;have p4:=Aa n _ _ p4;have g:=c.trans (n.mono c.size);have r:Below w.heap.size w w3:=l.trans (n.mono l.size);clear g0 g1 g2 g3 g4 g5;have g0:=Aa g _ _ (hB.out 0 (.int .i64 v.kind) rfl);have g1:=Aa g _ _ (hB.out 1 (.string v.text) rfl);have g2:=Aa g _ _ (hB.out 2 (.int .i64 v.int) rfl);have g3:=Aa g _ _ (hB.out 3 (.float .f64 v.real) rfl);have g4:=Aa g _ _ (hB.out 4 (.bool v.flag) rfl);have g5:=Aa g _ _ (hB.out 5 (.slice a v.list.length cap) rfl);rw [hF];have ap:Al v.kind=false->v.list.length=0:=fun h=>by
  simp only [B4,Bo,Bool.and_eq_true,Bool.or_eq_true,decide_eq_true_eq] at hN;rcases hN.2 with h1 | h1
  ·rw [h] at h1;cases h1
  ·exact h1
 clear hF hN hk hbig az;cases t:Al v.kind with
 | false=>
  have hz:=ap t;rw [t] at p4;replace t:=Hd t;clear ap;go_wp2_with fail
  clear g0 g1 g2 g3 g4 g5 p4;replace hz:=Hd hz;go_loopw [2,53] (fun s2 s53 wr=>s53=.int .i64 0/\s2=.int .i64 (left - 1)/\Below w.heap.size w wr) (fun _ s53 _=>v.list.length - (intOf s53).toNat)
  case atStart=>exact ⟨rfl,rfl,r⟩
  case round=>
   obtain ⟨rfl,rfl,s⟩:=hrel;have ar:¬(0:Int)<(v.list.length:Int):=by have:=hz.out;omega
   have hlt' : ¬0<v.list.length:=by have:=hz.out;omega
   clear r;go_wp2;go_ret;have aq:v.list=[]:=List.length_eq_zero_iff.1 hz.out;exact ⟨by rw [rightZ_all (q:=left - 1) ag.out ab.out (by rw [aq];simp [V.fineL]) (by omega) (by rw [aq];simp [V.countL])];rfl,s⟩
 | true=>
  have hd4:1<=deep:=ab.out t;have hd3:¬deep<1:=by omega
  rw [t] at p4;replace t:=Hd t;clear ap;go_wp2_with fail
  clear g0 g1 g2 g3 g4 g5 p4;go_loopw [2,53] (fun s2 s53 wr=>∃(j:Nat) (q:Int),j<=v.list.length/\s53=.int .i64 j/\s2=.int .i64 q/\0<=q/\(V.countL (v.list.take j):Int)+q+1=left/\V.fineL (v.list.take j) (deep - 1)=true/\Below w.heap.size w wr) (fun _ s53 _=>v.list.length - (intOf s53).toNat)
  case atStart=>exact ⟨0,left - 1,Nat.zero_le _,rfl,rfl,by omega,by simp [V.countL],by simp [V.fineL],r⟩
  case round=>
   obtain ⟨j,q,hj,rfl,rfl,a7,af,al,s⟩:=hrel;clear r;replace af:=Hd af;replace al:=Hd al;have hql:q<=left:=by have:=af.out;omega
   by_cases ar:j<v.list.length
   ·obtain ⟨x,b,o,a', am, an,ac,rfl,hx,d0,d1,d2,d3,d4,d5⟩:=hv.out.elem' ar
    have a0:=World.block_lt_of_cell? _ _ d0;have up:∀(q:Nat) u,w.cell? ⟨b,q,none⟩=some u->wr.cell? ⟨b,q,none⟩=some u:=fun q u h=>by rw [s.cell (by exact a0)];exact h
    replace d0:=up _ _ d0;replace d1:=up _ _ d1;replace d2:=up _ _ d2;replace d3:=up _ _ d3;replace d4:=up _ _ d4;replace d5:=up _ _ d5;have a1 := Hd (hx.mono (Aa (s.trans ((Below.refl wr.heap.size wr).alloc (Nat.le_refl _) (.cells #[.int .i64 x.kind,.string x.text,.int .i64 x.int,.float .f64 x.real,.bool x.flag,.slice a' x.list.length am] 26) |>.mono s.size))));have a2:=Hd (V.sizedL_mem ax.out x ac);have a3:x.count<=100000:=by have:=V.count_mem ac;have:=v.count_list_lt;omega
    have ao:v.list.take (j+1)=v.list.take j++[x]:=by
     obtain ⟨h1,h2⟩:=List.getElem?_eq_some_iff.1 an;rw [List.take_succ_eq_append_getElem h1,h2]
    have aj:Below w.heap.size w (wr.alloc (.cells #[.int .i64 x.kind,.string x.text,.int .i64 x.int,.float .f64 x.real,.bool x.flag,.slice a' x.list.length am] 26)):=s.alloc s.size _;replace an:=Hd an;replace ac:=Hd ac;replace ao:=Hd ao;replace aj:=Hd aj;clear up hx;by_cases h14:x.kind=14
    ·have au:(x.kind == 14)=true:=by simpa using h14
     have ae:Bx v deep left=-1:=rightZ_elem an.out (Or.inl h14);replace h14:=Hd h14;replace ae:=Hd ae;go_wp2;go_ret;exact ⟨by rw [ae.out];rfl,aj.out⟩
    ·have au:(x.kind == 14)=false:=by simpa using h14
     replace h14:=Hd h14;go_wp2_with fail
     refine (ih.out x ac.out a' am (deep - 1) q _ a1.out a2.out a3 (by omega) (by omega) (by omega) (by omega)).mono ?_;rintro e w4 ⟨rfl,aw⟩;have ak:Below w.heap.size w w4:=aj.out.trans (aw.mono aj.out.size);have a4:=rightZ_lo x (deep - 1) q;have a5:=rightZ_hi x (deep - 1) q (by omega);obtain ⟨p,hp⟩:∃p,p=Bx x (deep - 1) q:=⟨_,rfl⟩;rw [<-hp] at a4 a5 ⊢;replace hp:=Hd hp;clear aw s d0 d1 d2 d3 d4 d5;by_cases hpn:p<0
     ·have ae:Bx v deep left=-1:=rightZ_elem an.out (Or.inr (by
       have h1:left - 1 - (V.countL (v.list.take j):Int)=q:=by have:=af.out;omega
       rw [h1,<-hp.out];exact hpn))
      replace ae:=Hd ae;go_wp2;go_ret;exact ⟨by rw [ae.out];rfl,ak⟩
     ·go_wp2
      go_roundw
      case rel=>
       have av:=rightZ_step (x:=x) (d:=deep - 1) (q:=q) (by rw [<-hp.out];omega);refine ⟨j+1,p,by omega,by go_num,rfl,by omega,?_,?_,ak⟩
       ·rw [ao.out,V.countL_append]
        simp only [V.countL,Nat.add_zero];have:=af.out;have h2:=av.2;rw [<-hp.out] at h2;omega
       ·rw [ao.out,V.fineL_snoc,al.out,av.1]
        simp [h14.out]
      case measure=>simp [intOf];omega
   ·have a6:j=v.list.length:=by omega
    subst a6;rw [List.take_length] at af al;go_wp2;go_ret;exact ⟨by rw [rightZ_all ag.out ab.out al.out a7 af.out];rfl,s⟩
def Fk (v:V):Int:=if v.fine 8=true/\v.count<=1000 then 0 else 31
theorem check_any (v:V) (a:Option Addr) (cap:Nat) (w:World) (hv:RV w.cell? (Ao v.kind v.text v.int v.real v.flag a v.list.length cap) v) (hs:v.sized) (hc:v.count<=100000) :
  Calls Tryz.prog 69 #[.agg #[.int .i64 v.kind,.string v.text,.int .i64 v.int,.float .f64 v.real,.bool v.flag,.slice a v.list.length cap]] w fun e w' => e=.returned (.int .i64 (Fk v))/\Below w.heap.size w w' := by
 have b:=(Below.refl w.heap.size w).alloc (Nat.le_refl _) (.cells #[.int .i64 v.kind,.string v.text,.int .i64 v.int,.float .f64 v.real,.bool v.flag,.slice a v.list.length cap] 26);have d := Hd (hv.mono (Aa b));replace b:=Hd b;clear hv
 go_enter Tryz.func69,Tryz.ntmps69
 go_wp2_with fail
 refine (right_any v a cap 8 1000 _ d.out hs hc (by omega) (by omega) (by omega) (by omega)).mono ?_;rintro e w1 ⟨rfl,hb⟩;have c:=b.out.trans (hb.mono (by simp));clear hb;by_cases h:v.fine 8=true/\v.count<=1000
 ·have h1:Bx v 8 1000=1000 - v.count:=by unfold Bx;rw [if_pos ⟨h.1,by omega⟩]
  have h2:Fk v=0:=by unfold Fk;rw [if_pos h]
  have h3:=h.2;rw [h1];replace h2:=Hd h2;clear h h1;have h4:¬((1000:Int) - v.count<0):=by omega
  go_wp2;go_ret;exact ⟨by rw [h2.out];rfl,c⟩
 ·have h1:Bx v 8 1000=-1:=by unfold Bx;rw [if_neg (fun h' => h ⟨h'.1,by omega⟩)]
  have h2:Fk v=31:=by unfold Fk;rw [if_neg h]
  rw [h1];replace h2:=Hd h2;clear h h1;go_wp2;go_ret;exact ⟨by rw [h2.out];rfl,c⟩
mutual
def V.dep:V->Int
 | .mk k _ _ _ _ l=>if Al k=true then V.depL l+1 else 0
def V.depL:List V->Int
 | []=>0
 | x :: l=>max (V.dep x) (V.depL l)
end
theorem V.dep_eq (v:V):v.dep=if Al v.kind=true then V.depL v.list+1 else 0:=by cases v;rw [V.dep];rfl
theorem V.depL_snoc (l:List V) (x:V):V.depL (l++[x])=max (V.depL l) x.dep:=by
 induction l with
 | nil=>
  simp only [List.nil_append,V.depL];omega
 | cons y l ih=>simp only [List.cons_append,V.depL,ih];omega
theorem V.depL_nonneg (l:List V):0<=V.depL l:=by
 induction l with
 | nil=>simp [V.depL]
 | cons y l ih=>simp only [V.depL];omega
theorem V.dep_count (v:V):0<=v.dep/\v.dep<=v.count:=by
 induction v using V.ind with
 | h v ih=>
 have hl:V.depL v.list<=V.countL v.list:=by
  have a:∀l:List V,(∀x∈l,0<=x.dep/\x.dep<=x.count)->V.depL l<=V.countL l:=by
   intro l;induction l with
   | nil=>intro _;simp [V.depL,V.countL]
   | cons y l ih=>
    intro h;have h1:=h y (by simp);have h2:=ih (fun x hx=>h x (by simp [hx]));simp only [V.depL,V.countL];omega
  exact a _ ih
 have h0:=V.depL_nonneg v.list;rw [V.dep_eq,V.count_eq];split<;>omega
end Go.Proofs.YtagkgfniihiinaaGreatDoor
namespace Go.Proofs.YtagkgfniihiinaaGreatDoor
open Go.RowKit Go.Lib
def digB (x:UInt8):Bool:=decide (48<=x.toNat/\x.toNat<=57)
theorem dig_contains (x:UInt8):Cr.contains x=digB x:=by
 have:∀n:Nat,n<256->Cr.contains (UInt8.ofNat n)=digB (UInt8.ofNat n):=by decide +kernel
 have h:=this x.toNat x.toNat_lt;simpa using h
theorem dw_all {α:Type} (p:α->Bool) (l:List α):(∀x∈l.dropWhile p,p x=true) ↔ ∀x∈l,p x=true:=by
 induction l with
 | nil=>simp
 | cons y l ih=>
  by_cases h:p y=true
  ·rw [List.dropWhile_cons_of_pos h,ih]
   simp [h]
  ·rw [List.dropWhile_cons_of_neg h]
theorem dw_nil {α:Type} (p:α->Bool) (l:List α):l.dropWhile p=[] ↔ ∀x∈l,p x=true:=by
 induction l with
 | nil=>simp
 | cons y l ih=>
  by_cases h:p y=true
  ·rw [List.dropWhile_cons_of_pos h,ih]
   simp [h]
  ·rw [List.dropWhile_cons_of_neg h]
   simp [h]
theorem trimS_nil (l:List UInt8):(Lib.trimS l Cr).isEmpty=l.all digB:=by
 rw [Bool.eq_iff_iff,List.isEmpty_iff,List.all_eq_true];unfold Lib.trimS Lib.trimLeftS Lib.trimRightS;rw [dw_nil];constructor
 ·intro h x hx
  have h2:∀y∈l.reverse.dropWhile (Cr.contains ·),Cr.contains y=true:=fun y hy=>h y (by simpa using hy)
  have h3:=(dw_all _ _).1 h2 x (by simpa using hx);rw [<-dig_contains];exact h3
 ·intro h x hx
  have h1:x∈l:=by
   have:=(List.dropWhile_sublist (fun y=>Cr.contains y) (l:=l.reverse)).subset (by simpa using hx);simpa using this
  show Cr.contains x=true;rw [dig_contains];exact h x h1
def Fb (t:ByteArray):Nat:=if t.data.toList.head?=some 45 then 1 else 0
theorem bigB_eq (t:ByteArray):bigB t=(decide (Fb t≠t.size) && (t.data.toList.drop (Fb t)).all digB):=by
 have hp:Lib.trimPrefix t.data.toList [45]=t.data.toList.drop (Fb t):=by
  unfold Lib.trimPrefix Fb;cases h:t.data.toList with
  | nil=>simp [Lib.hasPrefix]
  | cons y l=>
   by_cases hy:y=45
   ·subst hy;simp [Lib.hasPrefix]
   ·simp [Lib.hasPrefix,hy]
    intro h'; exact absurd h'.symm hy
 unfold bigB;rw [hp,trimS_nil];congr 1;rw [Bool.eq_iff_iff];have hl:t.data.toList.length=t.size:=by simp
 have hle:Fb t<=t.size:=by
  unfold Fb;split
  ·rename_i h
   cases hh:t.data.toList with
   | nil=>rw [hh] at h;cases h
   | cons y l=>rw [hh] at hl;simp at hl;omega
  ·omega
 simp [List.drop_eq_nil_iff];omega
