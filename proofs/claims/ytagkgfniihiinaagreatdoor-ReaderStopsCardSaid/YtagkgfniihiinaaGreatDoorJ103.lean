/- What the document's functions say of a value. -/
import Derived.Test.YtagkgfniihiinaaGreatDoorJ64
set_option linter.all false
set_option maxHeartbeats 12800000
set_option maxRecDepth 100000
namespace Go.Proofs.YtagkgfniihiinaaGreatDoor
open Go.RowKit
theorem Bk (k:Int) (w:World):Calls Tryz.prog 54 #[.int .i64 k] w fun e w' => e=.returned (.bool (Al k))/\w' = w:=by
 by_cases h5:k=5
 ·subst h5
  go_enter Tryz.func54,Tryz.ntmps54
  go_wp2;go_ret;exact ⟨rfl,rfl⟩
 ·have h5b:(k == 5)=false:=by simpa using h5
  replace h5:=Hd h5;by_cases h12:12<=k
  ·by_cases h14:k<=14
   ·rw [show Al k=true by simp [Al];omega]
    go_enter Tryz.func54,Tryz.ntmps54
    go_wp2;go_ret;exact ⟨rfl,rfl⟩
   ·rw [show Al k=false by have:=h5.out;simp [Al];omega]
    go_enter Tryz.func54,Tryz.ntmps54
    go_wp2;go_ret;exact ⟨rfl,rfl⟩
  ·rw [show Al k=false by have:=h5.out;simp [Al];omega]
   go_enter Tryz.func54,Tryz.ntmps54
   go_wp2;go_ret;exact ⟨rfl,rfl⟩
theorem D3 (k:Int) (w:World):Calls Tryz.prog 83 #[.int .i64 k] w fun e w' => e=.returned (.bool (Bt k))/\w' = w:=by
 rcases (by omega:k=1\/k=2\/k=4\/(k≠1/\k≠2/\k≠4)) with rfl | rfl | rfl | ⟨h1,h2,h4⟩
 ·go_enter Tryz.func83,Tryz.ntmps83
  go_wp2;go_ret;exact ⟨rfl,rfl⟩
 ·go_enter Tryz.func83,Tryz.ntmps83
  go_wp2;go_ret;exact ⟨rfl,rfl⟩
 ·go_enter Tryz.func83,Tryz.ntmps83
  go_wp2;go_ret;exact ⟨rfl,rfl⟩
 ·have h1b:(k == 1)=false:=by simpa using h1
  have h2b:(k == 2)=false:=by simpa using h2
  have h4b:(k == 4)=false:=by simpa using h4
  replace h1:=Hd h1;replace h2:=Hd h2;replace h4:=Hd h4;by_cases h9:9<=k
  ·by_cases h11:k<=11
   ·rw [show Bt k=true by simp [Bt];omega]
    go_enter Tryz.func83,Tryz.ntmps83
    go_wp2;go_ret;exact ⟨rfl,rfl⟩
   ·rw [show Bt k=false by have:=h1.out;have:=h2.out;have:=h4.out;simp [Bt];omega]
    go_enter Tryz.func83,Tryz.ntmps83
    go_wp2;go_ret;exact ⟨rfl,rfl⟩
  ·rw [show Bt k=false by have:=h1.out;have:=h2.out;have:=h4.out;simp [Bt];omega]
   go_enter Tryz.func83,Tryz.ntmps83
   go_wp2;go_ret;exact ⟨rfl,rfl⟩
theorem rcount_any (v:V):∀(a:Option Addr) (cap:Nat) (w:World),RV w.cell? (Ao v.kind v.text v.int v.real v.flag a v.list.length cap) v->v.count<=100000 ->
  Calls Tryz.prog 38 #[.agg #[.int .i64 v.kind,.string v.text,.int .i64 v.int,.float .f64 v.real,.bool v.flag,.slice a v.list.length cap]] w fun e w' => e=.returned (.int .i64 v.count)/\Below w.heap.size w w' := by
 induction v using V.ind with
 | h v ih=>
 intro a cap w hv hcnt;replace ih:=Hd ih;replace hv:=Hd hv;have hn5:v.list.length<=100000:=by have:=V.length_le v.list;have:=v.count_list_lt;omega
 have i:=Hd ((Below.refl w.heap.size w).alloc (Nat.le_refl _) (.cells #[.int .i64 v.kind,.string v.text,.int .i64 v.int,.float .f64 v.real,.bool v.flag,.slice a v.list.length cap] 26))
 go_enter Tryz.func38,Tryz.ntmps38
 go_wp2_with fail
 go_loopw [3,9] (fun s3 s9 wr=>∃j:Nat,j<=v.list.length/\s9=.int .i64 j/\s3=.int .i64 ((V.countL (v.list.take j)+1:Nat):Int)/\Below w.heap.size w wr) (fun _ s9 _=>v.list.length - (intOf s9).toNat)
 case atStart=>exact ⟨0,Nat.zero_le _,rfl,rfl,i.out⟩
 case round=>
  obtain ⟨j,hj,rfl,rfl,c⟩:=hrel;clear i;by_cases hlt:j<v.list.length
  ·obtain ⟨x,b,o,a', f, n,d,rfl,hx,d0,d1,d2,d3,d4,d5⟩:=hv.out.elem' hlt
   have r:=World.block_lt_of_cell? _ _ d0;have up:∀(q:Nat) u,w.cell? ⟨b,q,none⟩=some u->wr.cell? ⟨b,q,none⟩=some u:=fun q u h=>by rw [c.cell (by exact r)];exact h
   replace d0:=up _ _ d0;replace d1:=up _ _ d1;replace d2:=up _ _ d2;replace d3:=up _ _ d3;replace d4:=up _ _ d4;replace d5:=up _ _ d5;have s := Hd (hx.mono (Aa (c.trans ((Below.refl wr.heap.size wr).alloc (Nat.le_refl _) (.cells #[.int .i64 x.kind,.string x.text,.int .i64 x.int,.float .f64 x.real,.bool x.flag,.slice a' x.list.length f] 26) |>.mono c.size))));have t:x.count<=100000:=by have:=V.count_mem d;have:=v.count_list_lt;omega
   have k:v.list.take (j+1)=v.list.take j++[x]:=by
    obtain ⟨h1,h2⟩:=List.getElem?_eq_some_iff.1 n;rw [List.take_succ_eq_append_getElem h1,h2]
   have g:Below w.heap.size w (wr.alloc (.cells #[.int .i64 x.kind,.string x.text,.int .i64 x.int,.float .f64 x.real,.bool x.flag,.slice a' x.list.length f] 26)):=c.alloc c.size _;replace n:=Hd n;replace d:=Hd d;replace k:=Hd k;replace g:=Hd g;clear up hx;have y:=V.countL_take v.list j;have hcv:=v.count_list_lt;obtain ⟨m,hm⟩:∃m,m=V.countL (v.list.take j):=⟨_,rfl⟩;rw [<-hm] at y ⊢;replace hm:=Hd hm;go_wp2_with fail
   refine (ih.out x d.out a' f _ s.out t).mono ?_;rintro e w4 ⟨rfl,p⟩;have l:Below w.heap.size w w4:=g.out.trans (p.mono g.out.size);clear p c d0 d1 d2 d3 d4 d5;go_wp2
   go_roundw
   case rel=>exact ⟨j+1,by omega,by go_num,by rw [k.out,V.countL_append];simp only [V.countL,Nat.add_zero];rw [<-hm.out];congr 1;omega,l⟩
   case measure=>simp [intOf];omega
  ·have z:j=v.list.length:=by omega
   subst z;rw [List.take_length];go_wp2;go_ret;exact ⟨by rw [V.count_eq];rfl,c⟩
theorem rdepth_any (v:V):∀(a:Option Addr) (cap:Nat) (w:World),RV w.cell? (Ao v.kind v.text v.int v.real v.flag a v.list.length cap) v->v.count<=100000 ->
  Calls Tryz.prog 37 #[.agg #[.int .i64 v.kind,.string v.text,.int .i64 v.int,.float .f64 v.real,.bool v.flag,.slice a v.list.length cap]] w fun e w' => e=.returned (.int .i64 v.dep)/\Below w.heap.size w w' := by
 induction v using V.ind with
 | h v ih=>
 intro a cap w hv hcnt;replace ih:=Hd ih;replace hv:=Hd hv;have hn5:v.list.length<=100000:=by have:=V.length_le v.list;have:=v.count_list_lt;omega
 have f:=Hd ((Below.refl w.heap.size w).alloc (Nat.le_refl _) (.cells #[.int .i64 v.kind,.string v.text,.int .i64 v.int,.float .f64 v.real,.bool v.flag,.slice a v.list.length cap] 26));cases hlk:Al v.kind with
 | false=>
  have hz:v.dep=0:=by rw [V.dep_eq,hlk];rfl
  replace hz:=Hd hz;replace hlk:=Hd hlk
  go_enter Tryz.func37,Tryz.ntmps37
  go_wp2_with fail
  refine (Bk v.kind _).mono ?_;rintro e w1 ⟨rfl,k⟩;rw [k,hlk.out];go_wp2;go_ret;exact ⟨by rw [hz.out];rfl,f.out⟩
 | true=>
  have hz:v.dep=V.depL v.list+1:=by rw [V.dep_eq,hlk];rfl
  replace hz:=Hd hz;replace hlk:=Hd hlk
  go_enter Tryz.func37,Tryz.ntmps37
  go_wp2_with fail
  refine (Bk v.kind _).mono ?_;rintro e w1 ⟨rfl,k⟩;rw [k,hlk.out];go_wp2_with fail
  go_loopw [3,6,14] (fun s3 _ s20 wr=>∃j:Nat,j<=v.list.length/\s20=.int .i64 j/\s3=.int .i64 (V.depL (v.list.take j)+1)/\Below w.heap.size w wr) (fun _ _ s20 _=>v.list.length - (intOf s20).toNat)
  case atStart=>exact ⟨0,Nat.zero_le _,rfl,rfl,f.out⟩
  case round=>
   obtain ⟨j,hj,rfl,rfl,c⟩:=hrel;clear f k;by_cases hlt:j<v.list.length
   ·obtain ⟨x,b,o,a', g, p,d,rfl,hx,d0,d1,d2,d3,d4,d5⟩:=hv.out.elem' hlt
    have s:=World.block_lt_of_cell? _ _ d0;have up:∀(q:Nat) u,w.cell? ⟨b,q,none⟩=some u->wr.cell? ⟨b,q,none⟩=some u:=fun q u h=>by rw [c.cell (by exact s)];exact h
    replace d0:=up _ _ d0;replace d1:=up _ _ d1;replace d2:=up _ _ d2;replace d3:=up _ _ d3;replace d4:=up _ _ d4;replace d5:=up _ _ d5;have t := Hd (hx.mono (Aa (c.trans ((Below.refl wr.heap.size wr).alloc (Nat.le_refl _) (.cells #[.int .i64 x.kind,.string x.text,.int .i64 x.int,.float .f64 x.real,.bool x.flag,.slice a' x.list.length g] 26) |>.mono c.size))));have y:x.count<=100000:=by have:=V.count_mem d;have:=v.count_list_lt;omega
    have l:v.list.take (j+1)=v.list.take j++[x]:=by
     obtain ⟨h1,h2⟩:=List.getElem?_eq_some_iff.1 p;rw [List.take_succ_eq_append_getElem h1,h2]
    have i:Below w.heap.size w (wr.alloc (.cells #[.int .i64 x.kind,.string x.text,.int .i64 x.int,.float .f64 x.real,.bool x.flag,.slice a' x.list.length g] 26)):=c.alloc c.size _;replace p:=Hd p;replace d:=Hd d;replace l:=Hd l;replace i:=Hd i;clear up hx;have hxd:=x.dep_count;obtain ⟨m,hm⟩:∃m,m=V.depL (v.list.take j):=⟨_,rfl⟩;rw [<-hm];replace hm:=Hd hm;go_wp2_with fail
    refine (ih.out x d.out a' g _ t.out y).mono ?_;rintro e w4 ⟨rfl,r⟩;have n:Below w.heap.size w w4:=i.out.trans (r.mono i.out.size);clear r c d0 d1 d2 d3 d4 d5;by_cases hmx:m<x.dep
    all_goals
     go_wp2
     go_roundw
     case rel=>exact ⟨j+1,by omega,by go_num,by rw [l.out,V.depL_snoc,<-hm.out]<;>exact congrArg (Value.int .i64) (by omega),n⟩
     case measure=>simp [intOf];omega
   ·have z:j=v.list.length:=by omega
    subst z;rw [List.take_length];go_wp2;go_ret;exact ⟨by rw [hz.out];rfl,c⟩
theorem Fg {l:List UInt8} {A i:Nat} {x:UInt8} (hA:A<=i) (hx:l[i]?=some x) (h:digB x=false):(l.drop A).all digB=false:=by
 rw [List.all_eq_false];refine ⟨x,?_,by simp [h]⟩;have:(l.drop A)[i - A]?=some x:=by rw [List.getElem?_drop,show A+(i - A)=i by omega];exact hx
 exact List.mem_of_getElem? this
theorem all_drop_step {l:List UInt8} {A i:Nat} {x:UInt8} (hA:A<=i) (hx:l[i]?=some x) (h:((l.take i).drop A).all digB=true) (hd:digB x=true):((l.take (i+1)).drop A).all digB=true:=by
 obtain ⟨hi,he⟩:=List.getElem?_eq_some_iff.1 hx;rw [List.take_succ_eq_append_getElem hi,he,List.drop_append_of_le_length (by rw [List.length_take];omega),List.all_append,h];simp [hd]
theorem okV_eq {v:V} (h:(Cm v.kind && B4 v)=true):okV v=(B1 v.kind v.text v.list.length && decide (v.text.size<=4096)):=by
 unfold okV;rw [h,Bool.true_and]
theorem crlf_hit {t:ByteArray} {i:Nat} {x:UInt8} (h:Lib.NoAny t.data.toList [13,10] i) (hx:t.data.toList[i]?=some x) (hc:x=13\/x=10):E5 t=true:=by
 unfold E5 Lib.containsAny;rw [Lib.indexAny_hit h hx (by rcases hc with rfl | rfl<;>decide)]
 simp
theorem crlf_none {t:ByteArray} (h:Lib.NoAny t.data.toList [13,10] t.size):E5 t=false:=by
 unfold E5 Lib.containsAny;rw [Lib.indexAny_none (by rw [<-Lib.size_eq];exact h)];decide
theorem colon_slice (t:ByteArray):(decide (4<=t.size) && ((t.extract 3 4).toList == [58]))=Ed t:=by
 unfold Ed;by_cases h:3<t.size
 ·rw [dif_pos h]
  have e:(t.extract 3 4).toList=[t[3]'h]:=by
   rw [Lib.toList_data,ByteArray.data_extract,Array.toList_extract];have hl:3<t.data.toList.length:=by simpa using h
   rw [List.extract_eq_take_drop,List.drop_eq_getElem_cons hl];rfl
  rw [e,decide_eq_true (by omega)];rw [Bool.eq_iff_iff];simp
 ·rw [dif_neg h,decide_eq_false (by omega)]
  rfl
theorem own_any (v:V) (a:Option Addr) (cap:Nat) (w:World) (hs:v.text.size<=9223372036854775807) (hn:v.list.length<=100000) :
  Calls Tryz.prog 53 #[.agg #[.int .i64 v.kind,.string v.text,.int .i64 v.int,.float .f64 v.real,.bool v.flag,.slice a v.list.length cap]] w fun e w' => e=.returned (.bool (okV v))/\Below w.heap.size w w' := by
 obtain ⟨W1,hW1⟩:∃W1,W1=w.alloc (.cells #[.int .i64 v.kind,.string v.text,.int .i64 v.int,.float .f64 v.real,.bool v.flag,.slice a v.list.length cap] 26):=⟨_,rfl⟩;have g:Below w.heap.size w W1:=by rw [hW1];exact (Below.refl _ _).alloc (Nat.le_refl _) _
 have g0:W1.cell? ⟨w.heap.size,0,none⟩=some (.int .i64 v.kind):=by rw [hW1,World.cell?_alloc_new];rfl
 have g1:W1.cell? ⟨w.heap.size,1,none⟩=some (.string v.text):=by rw [hW1,World.cell?_alloc_new];rfl
 have g2:W1.cell? ⟨w.heap.size,2,none⟩=some (.int .i64 v.int):=by rw [hW1,World.cell?_alloc_new];rfl
 have g3:W1.cell? ⟨w.heap.size,3,none⟩=some (.float .f64 v.real):=by rw [hW1,World.cell?_alloc_new];rfl
 have g4:W1.cell? ⟨w.heap.size,4,none⟩=some (.bool v.flag):=by rw [hW1,World.cell?_alloc_new];rfl
 have g5:W1.cell? ⟨w.heap.size,5,none⟩=some (.slice a v.list.length cap):=by rw [hW1,World.cell?_alloc_new];rfl
 have y:=Hd (fun (W:World)=>Cu v.real W);replace hW1:=Hd hW1;replace g:=Hd g;generalize hnl:v.list.length=n at *;replace hnl:=Hd hnl
 go_enter Tryz.func53,Tryz.ntmps53
 go_upto_region 1 with fail
 rw [<-hW1.out];generalize (Value.agg #[.int .i64 v.kind,.string v.text,.int .i64 v.int,.float .f64 v.real,.bool v.flag,.slice a n cap])=V0
 go_cut [65] (fun s65 wx=>s65=.bool (!(Cm v.kind && B4 v))/\wx=W1)
 case first=>
  by_cases h1:v.kind<1
  ·have hk:Cm v.kind=false:=by simp [Cm];omega
   replace hk:=Hd hk;go_wp2
   go_meet
   exact ⟨by rw [hk.out];rfl,rfl⟩
  by_cases ai:14<v.kind
  ·have hk:Cm v.kind=false:=by simp [Cm];omega
   replace hk:=Hd hk;go_wp2
   go_meet
   exact ⟨by rw [hk.out];rfl,rfl⟩
  have hk:Cm v.kind=true:=by simp [Cm];omega
  replace hk:=Hd hk;rcases classK v.kind with h | h | h | h | h | h
  all_goals
   simp only [Prod.mk.injEq] at h
   obtain ⟨q1,q2,q3,q4,q5⟩:=h
   have r:B4 v=Bo (Bt v.kind) (numK v.kind) (Bz v.kind) (B3 v.kind) (Al v.kind) v:=rfl
   rw [q1,q2,q3,q4,q5] at r
   replace r:=Hd r
  ·have e3:(v.kind != 3)=true:=by simp [numK] at q2;simpa using q2
   have e7:(v.kind != 7)=true:=by simp [Bz] at q3;simpa using q3
   have e8:(v.kind != 8)=true:=by simp [B3] at q4;simpa using q4
   go_wp2_with (first
    | (go_at_call 83;refine (D3 v.kind _).mono ?_;rintro e w' ⟨rfl,hw⟩;rw [hw])
    | (go_at_call 39;refine (y.out _).mono ?_;rintro e w' ⟨rfl,hw⟩;rw [hw])
    | (go_at_call 54;refine (Bk v.kind _).mono ?_;rintro e w' ⟨rfl,hw⟩;rw [hw]))
   all_goals
    go_meet
    refine ⟨congrArg Value.bool ?_,rfl⟩
    rw [hk.out,r.out]
    simp [Bo,Ef,hnl.out, *]
    try (by_cases hz:n=0<;>simp [hz]<;>omega)
  ·have e3:(v.kind != 3)=false:=by simp [numK] at q2;simpa using q2
   have e7:(v.kind != 7)=true:=by simp [Bz] at q3;simpa using q3
   have e8:(v.kind != 8)=true:=by simp [B3] at q4;simpa using q4
   go_wp2_with (first
    | (go_at_call 83;refine (D3 v.kind _).mono ?_;rintro e w' ⟨rfl,hw⟩;rw [hw])
    | (go_at_call 39;refine (y.out _).mono ?_;rintro e w' ⟨rfl,hw⟩;rw [hw])
    | (go_at_call 54;refine (Bk v.kind _).mono ?_;rintro e w' ⟨rfl,hw⟩;rw [hw]))
   all_goals
    go_meet
    refine ⟨congrArg Value.bool ?_,rfl⟩
    rw [hk.out,r.out]
    simp [Bo,Ef,hnl.out, *]
    try (by_cases hz:n=0<;>simp [hz]<;>omega)
  ·have e3:(v.kind != 3)=true:=by simp [numK] at q2;simpa using q2
   have e7:(v.kind != 7)=false:=by simp [Bz] at q3;simpa using q3
   have e8:(v.kind != 8)=true:=by simp [B3] at q4;simpa using q4
   go_wp2_with (first
    | (go_at_call 83;refine (D3 v.kind _).mono ?_;rintro e w' ⟨rfl,hw⟩;rw [hw])
    | (go_at_call 39;refine (y.out _).mono ?_;rintro e w' ⟨rfl,hw⟩;rw [hw])
    | (go_at_call 54;refine (Bk v.kind _).mono ?_;rintro e w' ⟨rfl,hw⟩;rw [hw]))
   all_goals
    go_meet
    refine ⟨congrArg Value.bool ?_,rfl⟩
    rw [hk.out,r.out]
    simp [Bo,Ef,hnl.out, *]
    try (by_cases hz:n=0<;>simp [hz]<;>omega)
  ·have e3:(v.kind != 3)=true:=by simp [numK] at q2;simpa using q2
   have e7:(v.kind != 7)=true:=by simp [Bz] at q3;simpa using q3
   have e8:(v.kind != 8)=false:=by simp [B3] at q4;simpa using q4
   go_wp2_with (first
    | (go_at_call 83;refine (D3 v.kind _).mono ?_;rintro e w' ⟨rfl,hw⟩;rw [hw])
    | (go_at_call 39;refine (y.out _).mono ?_;rintro e w' ⟨rfl,hw⟩;rw [hw])
    | (go_at_call 54;refine (Bk v.kind _).mono ?_;rintro e w' ⟨rfl,hw⟩;rw [hw]))
   all_goals
    go_meet
    refine ⟨congrArg Value.bool ?_,rfl⟩
    rw [hk.out,r.out]
    simp [Bo,Ef,hnl.out, *]
    try (by_cases hz:n=0<;>simp [hz]<;>omega)
  ·have e3:(v.kind != 3)=true:=by simp [numK] at q2;simpa using q2
   have e7:(v.kind != 7)=true:=by simp [Bz] at q3;simpa using q3
   have e8:(v.kind != 8)=true:=by simp [B3] at q4;simpa using q4
   go_wp2_with (first
    | (go_at_call 83;refine (D3 v.kind _).mono ?_;rintro e w' ⟨rfl,hw⟩;rw [hw])
    | (go_at_call 39;refine (y.out _).mono ?_;rintro e w' ⟨rfl,hw⟩;rw [hw])
    | (go_at_call 54;refine (Bk v.kind _).mono ?_;rintro e w' ⟨rfl,hw⟩;rw [hw]))
   all_goals
    go_meet
    refine ⟨congrArg Value.bool ?_,rfl⟩
    rw [hk.out,r.out]
    simp [Bo,Ef,hnl.out, *]
    try (by_cases hz:n=0<;>simp [hz]<;>omega)
  ·have e3:(v.kind != 3)=true:=by simp [numK] at q2;simpa using q2
   have e7:(v.kind != 7)=true:=by simp [Bz] at q3;simpa using q3
   have e8:(v.kind != 8)=true:=by simp [B3] at q4;simpa using q4
   go_wp2_with (first
    | (go_at_call 83;refine (D3 v.kind _).mono ?_;rintro e w' ⟨rfl,hw⟩;rw [hw])
    | (go_at_call 39;refine (y.out _).mono ?_;rintro e w' ⟨rfl,hw⟩;rw [hw])
    | (go_at_call 54;refine (Bk v.kind _).mono ?_;rintro e w' ⟨rfl,hw⟩;rw [hw]))
   all_goals
    go_meet
    refine ⟨congrArg Value.bool ?_,rfl⟩
    rw [hk.out,r.out]
    simp [Bo,Ef,hnl.out, *]
    try (by_cases hz:n=0<;>simp [hz]<;>omega)
 case rest=>
  obtain ⟨rfl,rfl⟩:=hcut;cases hkn:(Cm v.kind && B4 v) with
  | false=>
   have f:okV v=false:=by unfold okV;rw [hkn];rfl
   replace f:=Hd f;replace hkn:=Hd hkn;clear g0 g1 g2 g3 g4 g5;go_wp2;go_ret;exact ⟨by rw [f.out];rfl,g.out⟩
  | true=>
  have f:=okV_eq hkn;have d:Al v.kind=true->v.text.size=0:=fun h=>by
   simp only [Bool.and_eq_true,B4,Bo,Bool.or_eq_true] at hkn;rcases hkn.2.1.1.1.1 with h1 | h1
   ·simp only [Bt,Al,decide_eq_true_eq] at h1 h;omega
   ·simp only [Ef,List.isEmpty_iff] at h1
    rw [Lib.toList_data] at h1;have:=congrArg List.length h1;simpa using this
  rw [hnl.out] at f;replace f:=Hd f;replace hkn:=Hd hkn;replace d:=Hd d;obtain ⟨t,ht⟩:∃t,t=v.text:=⟨_,rfl⟩;rw [<-ht] at g1 f d hs;replace ht:=Hd ht;obtain ⟨k,hkk⟩:∃k,k=v.kind:=⟨_,rfl⟩;rw [<-hkk] at g0 f d;replace hkk:=Hd hkk;clear g2 g3 g4;rcases (by omega:(k=1\/k=2)\/k=9\/k=11\/k=12\/k=14\/(k≠1/\k≠2/\k≠9/\k≠11/\k≠12/\k≠14)) with hk | rfl | rfl | rfl | rfl | h
  ·have b:okV v=(!E5 t && decide (t.size<=4096)):=by rw [f.out,B1,if_pos hk]
   replace b:=Hd b;clear f d;rcases hk with rfl | rfl
   all_goals
    go_wp2_with fail
    go_loop [3] (fun s3=>∃i:Nat,i<=t.size/\s3=.int .i64 i/\Lib.NoAny t.data.toList [13,10] i) (fun s3=>t.size - (intOf s3).toNat)
    case atStart=>exact ⟨0,Nat.zero_le _,rfl,Lib.NoAny.zero _ _⟩
    case round=>
     obtain ⟨i,hi,rfl,c⟩:=hrel;replace c:=Hd c;by_cases hlt:i<t.size
     ·obtain ⟨x,hx⟩:∃x:UInt8,t[i]'hlt=x:=⟨_,rfl⟩
      have j:t.data.toList[i]?=some x:=by rw [<-hx];exact Lib.data_getElem? t i hlt
      replace j:=Hd j;by_cases h10:x=10
      ·have e:((x.toNat:Int) == 10)=true:=by subst h10;rfl
       have hc:=Hd (crlf_hit c.out j.out (Or.inr h10));replace h10:=Hd h10;go_wp2;go_ret;exact ⟨by rw [b.out,hc.out];rfl,g.out⟩
      ·have e:((x.toNat:Int) == 10)=false:=by
        have:x.toNat≠10:=fun h=>h10 (UInt8.toNat_inj.1 (by simpa using h));simp;omega
       by_cases h13:x=13
       ·have e2:((x.toNat:Int) == 13)=true:=by subst h13;rfl
        have hc:=Hd (crlf_hit c.out j.out (Or.inl h13));replace h13:=Hd h13;replace h10:=Hd h10;go_wp2;go_ret;exact ⟨by rw [b.out,hc.out];rfl,g.out⟩
       ·have e2:((x.toNat:Int) == 13)=false:=by
         have:x.toNat≠13:=fun h=>h13 (UInt8.toNat_inj.1 (by simpa using h));simp;omega
        have ag:=Hd (c.out.succ j.out (by simp [h10,h13]));replace h10:=Hd h10;replace h13:=Hd h13;go_wp2
        go_round
        case rel=>exact ⟨i+1,by omega,by go_num,ag.out⟩
        case measure=>simp [intOf];omega
     ·obtain rfl:i=t.size:=by omega
      have hc:=Hd (crlf_none c.out);go_wp2;go_ret;exact ⟨by rw [b.out,hc.out];simp;omega,g.out⟩
  ·have af:B1 9 t n=bigB t:=by simp [B1]
   have l:=f.out;rw [af,bigB_eq] at l;clear af f d;replace l:=Hd l;by_cases hz:t.size=0
   ·have c:okV v=false:=by
     rw [l.out];have:Fb t=0:=by
      unfold Fb;rw [if_neg];have:t.data.toList=[]:=List.length_eq_zero_iff.1 (by simpa using hz);rw [this];simp
     simp [this,hz]
    replace c:=Hd c;have t0:¬(0:Int)<(t.size:Int):=by omega
    have t1:((0:Int) == (t.size:Int))=true:=by simp;omega
    replace hz:=Hd hz;go_wp2;go_ret;exact ⟨by rw [c.out];rfl,g.out⟩
   ·have z:0<t.size:=by omega
    obtain ⟨x0,hx0⟩:∃x:UInt8,t[0]'z=x:=⟨_,rfl⟩;have u:t.data.toList.head?=some x0:=by
     rw [List.head?_eq_getElem?,<-hx0];exact Lib.data_getElem? t 0 z
    have t0:(0:Int)<(t.size:Int):=by omega
    by_cases h45:x0=45
    ·have hA:Fb t=1:=by unfold Fb;rw [u,h45];rfl
     rw [hA] at l;have ah:((x0.toNat:Int) == 45)=true:=by subst h45;rfl
     clear hA u;replace h45:=Hd h45;by_cases h1s:t.size=1
     ·have c:okV v=false:=by rw [l.out];simp [h1s]
      replace c:=Hd c;have t1:((1:Int) == (t.size:Int))=true:=by simp;omega
      replace h1s:=Hd h1s;replace hz:=Hd hz;go_wp2;go_ret;exact ⟨by rw [c.out];rfl,g.out⟩
     ·have b:okV v=((t.data.toList.drop 1).all digB && decide (t.size<=4096)):=by rw [l.out,decide_eq_true (show 1≠t.size by omega),Bool.true_and]
      have t1:((1:Int) == (t.size:Int))=false:=by simp;omega
      have h1s' : 1<=t.size:=by omega
      replace b:=Hd b;replace hz:=Hd hz;replace h1s:=Hd h1s;go_wp2_with fail
      go_loop [4] (fun s4=>∃i:Nat,1<=i/\i<=t.size/\s4=.int .i64 i/\((t.data.toList.take i).drop 1).all digB=true) (fun s4=>t.size - (intOf s4).toNat)
      case atStart=>exact ⟨1,Nat.le_refl _,by omega,rfl,by simp⟩
      case round=>
       obtain ⟨i,s,hi,rfl,m⟩:=hrel;replace m:=Hd m;have o:t.data.toList.length=t.size:=by simp
       replace o:=Hd o;by_cases hlt:i<t.size
       ·obtain ⟨x,hx⟩:∃x:UInt8,t[i]'hlt=x:=⟨_,rfl⟩
        have j:t.data.toList[i]?=some x:=by rw [<-hx];exact Lib.data_getElem? t i hlt
        replace j:=Hd j;by_cases h48:x.toNat<48
        ·have e:(x.toNat:Int)<48:=by omega
         have c:okV v=false:=by
          rw [b.out,Fg s j.out (by simp [digB];omega)];simp
         replace c:=Hd c;replace h48:=Hd h48;go_wp2;go_ret;exact ⟨by rw [c.out];rfl,g.out⟩
        ·by_cases h57:57<x.toNat
         ·have e:¬(x.toNat:Int)<48:=by omega
          have e2:(57:Int)<(x.toNat:Int):=by omega
          have c:okV v=false:=by
           rw [b.out,Fg s j.out (by simp [digB];omega)];simp
          replace c:=Hd c;replace h48:=Hd h48;replace h57:=Hd h57;go_wp2;go_ret;exact ⟨by rw [c.out];rfl,g.out⟩
         ·have e:¬(x.toNat:Int)<48:=by omega
          have e2:¬(57:Int)<(x.toNat:Int):=by omega
          have aa:=Hd (all_drop_step s j.out m.out (by simp [digB];omega));replace h48:=Hd h48;replace h57:=Hd h57;go_wp2
          go_round
          case rel=>exact ⟨i+1,by omega,by omega,by go_num,aa.out⟩
          case measure=>simp [intOf];omega
       ·obtain rfl:i=t.size:=by omega
        have p:okV v=decide (t.size<=4096):=by
         rw [b.out];have h1:=m.out;rw [<-o.out,List.take_length] at h1;rw [h1];simp
        replace p:=Hd p;go_wp2;go_ret;exact ⟨by rw [p.out];simp;omega,g.out⟩
    ·have hA:Fb t=0:=by unfold Fb;rw [u,if_neg (by simpa using h45)]
     rw [hA] at l;have ah:((x0.toNat:Int) == 45)=false:=by
      have:x0.toNat≠45:=fun h=>h45 (UInt8.toNat_inj.1 (by simpa using h));simp;omega
     clear hA u;replace h45:=Hd h45;have b:okV v=((t.data.toList.drop 0).all digB && decide (t.size<=4096)):=by rw [l.out,decide_eq_true (show 0≠t.size by omega),Bool.true_and]
     have t1:((0:Int) == (t.size:Int))=false:=by simp;omega
     replace b:=Hd b;replace hz:=Hd hz;go_wp2_with fail
     go_loop [4] (fun s4=>∃i:Nat,0<=i/\i<=t.size/\s4=.int .i64 i/\((t.data.toList.take i).drop 0).all digB=true) (fun s4=>t.size - (intOf s4).toNat)
     case atStart=>exact ⟨0,Nat.le_refl _,by omega,rfl,by simp⟩
     case round=>
      obtain ⟨i,s,hi,rfl,m⟩:=hrel;replace m:=Hd m;have o:t.data.toList.length=t.size:=by simp
      replace o:=Hd o;by_cases hlt:i<t.size
      ·obtain ⟨x,hx⟩:∃x:UInt8,t[i]'hlt=x:=⟨_,rfl⟩
       have j:t.data.toList[i]?=some x:=by rw [<-hx];exact Lib.data_getElem? t i hlt
       replace j:=Hd j;by_cases h48:x.toNat<48
       ·have e:(x.toNat:Int)<48:=by omega
        have c:okV v=false:=by
         rw [b.out,Fg s j.out (by simp [digB];omega)];simp
        replace c:=Hd c;replace h48:=Hd h48;go_wp2;go_ret;exact ⟨by rw [c.out];rfl,g.out⟩
       ·by_cases h57:57<x.toNat
        ·have e:¬(x.toNat:Int)<48:=by omega
         have e2:(57:Int)<(x.toNat:Int):=by omega
         have c:okV v=false:=by
          rw [b.out,Fg s j.out (by simp [digB];omega)];simp
         replace c:=Hd c;replace h48:=Hd h48;replace h57:=Hd h57;go_wp2;go_ret;exact ⟨by rw [c.out];rfl,g.out⟩
        ·have e:¬(x.toNat:Int)<48:=by omega
         have e2:¬(57:Int)<(x.toNat:Int):=by omega
         have aa:=Hd (all_drop_step s j.out m.out (by simp [digB];omega));replace h48:=Hd h48;replace h57:=Hd h57;go_wp2
         go_round
         case rel=>exact ⟨i+1,by omega,by omega,by go_num,aa.out⟩
         case measure=>simp [intOf];omega
      ·obtain rfl:i=t.size:=by omega
       have p:okV v=decide (t.size<=4096):=by
        rw [b.out];have h1:=m.out;rw [<-o.out,List.take_length] at h1;rw [h1];simp
       replace p:=Hd p;go_wp2;go_ret;exact ⟨by rw [p.out];simp;omega,g.out⟩
  ·have b:okV v=(Ed t && decide (t.size<=4096)):=by rw [f.out];simp [B1]
   replace b:=Hd b;clear f d;have ab:=Hd (colon_slice t);by_cases h4:4<=t.size
   ·have t0:(4:Int)<=(t.size:Int):=by omega
    by_cases hc:(t.extract 3 4).toList=[58]
    ·have q:Ed t=true:=by rw [<-ab.out,hc,decide_eq_true h4];rfl
     replace q:=Hd q;have e1:((t.extract 3 4).toList == [58])=true:=by rw [hc];rfl
     replace hc:=Hd hc;go_wp2;go_ret;exact ⟨by rw [b.out,q.out];simp;omega,g.out⟩
    ·have e1:((t.extract 3 4).toList == [58])=false:=by simpa using hc
     have q:Ed t=false:=by rw [<-ab.out,e1];simp
     replace q:=Hd q;replace hc:=Hd hc;go_wp2;go_ret;exact ⟨by rw [b.out,q.out];rfl,g.out⟩
   ·have t0:¬(4:Int)<=(t.size:Int):=by omega
    have q:Ed t=false:=by rw [<-ab.out,decide_eq_false h4];rfl
    replace q:=Hd q;go_wp2;go_ret;exact ⟨by rw [b.out,q.out];rfl,g.out⟩
  ·have hz:=d.out rfl
   have b:okV v=decide (n % 2=0):=by rw [f.out,hz];simp [B1]
   replace b:=Hd b;replace hz:=Hd hz;clear f d;go_wp2;go_ret;refine ⟨?_,g.out⟩;have:(((n:Int) % 2) == 0)=decide (n % 2=0):=by
    rw [Bool.eq_iff_iff];simp;omega
   rw [b.out];simp [<-this]
  ·have hz:=d.out rfl
   have b:okV v=decide (0<n):=by rw [f.out,hz];simp [B1]
   replace b:=Hd b;replace hz:=Hd hz;clear f d;go_wp2;go_ret;exact ⟨by rw [b.out];simp,g.out⟩
  ·obtain ⟨q1,q2,q9,ac,ad,ae⟩:=h
   have b:okV v=decide (t.size<=4096):=by rw [f.out];simp [B1,q1,q2,q9,ac,ad,ae]
   replace b:=Hd b;have h1:(k == 1)=false:=by simpa using q1
   have h2:(k == 2)=false:=by simpa using q2
   have h9:(k == 9)=false:=by simpa using q9
   have h11:(k == 11)=false:=by simpa using ac
   have h12:(k == 12)=false:=by simpa using ad
   have ai:(k == 14)=false:=by simpa using ae
   clear q1 q2 q9 ac ad ae f d;go_wp2;go_ret;exact ⟨by rw [b.out];simp;omega,g.out⟩
mutual
def V.allb:V->Int->Bool
 | .mk k t i r f l,d=>okV (.mk k t i r f l) && decide (d<=8) && V.allbL l (d+1)
def V.allbL:List V->Int->Bool
 | [],_=>true
 | x :: l,d=>decide (x.kind≠14) && V.allb x d && V.allbL l d
end
theorem V.allb_eq (v:V) (d:Int):v.allb d=(okV v && decide (d<=8) && V.allbL v.list (d+1)):=by cases v;simp only [V.allb,V.list]
theorem V.allbL_snoc (l:List V) (x:V) (d:Int):V.allbL (l++[x]) d=(V.allbL l d && (decide (x.kind≠14) && V.allb x d)):=by
 induction l with
 | nil=>simp [V.allbL]
 | cons y l ih=>simp only [List.cons_append,V.allbL,ih,Bool.and_assoc]
theorem V.allbL_no {l:List V} {x:V} {d:Int} (hx:x∈l) (h:x.kind=14\/V.allb x d=false):V.allbL l d=false:=by
 induction l with
 | nil=>cases hx
 | cons y l ih=>
  simp only [V.allbL];rcases List.mem_cons.1 hx with rfl | hx
  ·rcases h with h | h
   ·simp [h]
   ·simp [h]
  ·rw [ih hx];simp
theorem V.fine_allb (v:V):∀(d:Int),0<=d->v.fine d=(v.allb (8 - d) && decide (v.dep<=d)):=by
 induction v using V.ind with
 | h v ih=>
 intro d hd;rw [V.fine_eq,V.allb_eq,decide_eq_true (show 8 - d<=8 by omega),Bool.and_true,V.dep_eq];cases hok:okV v with
 | false=>simp
 | true=>
 have h0:=V.depL_nonneg v.list;cases hl:Al v.kind with
 | false=>
  have hN:B4 v=true:=by simp only [okV,Bool.and_eq_true] at hok;exact hok.1.1.2
  have hz:v.list=[]:=by
   simp only [B4,Bo,Bool.and_eq_true,Bool.or_eq_true,decide_eq_true_eq] at hN;rcases hN.2 with h1 | h1
   ·rw [hl] at h1;cases h1
   ·exact List.length_eq_zero_iff.1 h1
  rw [hz];simp [V.fineL,V.allbL,hd]
 | true=>
  by_cases h1:1<=d
  ·have a:∀l:List V,(∀x∈l,x∈v.list)->V.fineL l (d - 1)=(V.allbL l (8 - d+1) && decide (V.depL l+1<=d)):=by
    intro l;induction l with
    | nil=>intro _;simp [V.fineL,V.allbL,V.depL];omega
    | cons y l ihl=>
     intro hm;have h2:=ihl (fun x hx=>hm x (by simp [hx]));have h3:=ih y (hm y (by simp)) (d - 1) (by omega);have b:decide (V.depL (y :: l)+1<=d)=(decide (y.dep<=d - 1) && decide (V.depL l+1<=d)):=by
      rw [Bool.eq_iff_iff];simp only [decide_eq_true_eq,Bool.and_eq_true];rw [V.depL];omega
     rw [b];simp only [V.fineL,V.allbL,h2,h3,show 8 - (d - 1)=8 - d+1 by omega];generalize decide (y.kind≠14)=b1;generalize y.allb (8 - d+1)=b2;generalize decide (y.dep<=d - 1)=b3;generalize V.allbL l (8 - d+1)=b4;generalize decide (V.depL l+1<=d)=b5;cases b1<;>cases b2<;>cases b3<;>cases b4<;>cases b5<;>rfl
   rw [a v.list (fun x hx=>hx)];simp [h1]
  ·rw [decide_eq_false h1]
   simp;intro _;omega
def Ez (v:V):Bool:=v.allb 0 && decide (v.dep<=8) && decide (v.count<=1000)
theorem right_check (v:V):(Fk v == 0)=Ez v:=by
 have h:=V.fine_allb v 8 (by omega);rw [show (8:Int) - 8=0 by omega] at h;unfold Fk Ez;rw [h];by_cases h1:(v.allb 0 && decide (v.dep<=8))=true
 ·by_cases h2:v.count<=1000
  ·rw [if_pos ⟨h1,h2⟩,h1];simp [h2]
  ·rw [if_neg (fun h=>h2 h.2),h1];simp [h2]
 ·rw [if_neg (fun h=>h1 h.1)]
  have:(v.allb 0 && decide (v.dep<=8))=false:=by simpa using h1
  rw [this];rfl
theorem all_any03 (v:V):∀(a:Option Addr) (cap:Nat) (deep:Int) (w:World),RV w.cell? (Ao v.kind v.text v.int v.real v.flag a v.list.length cap) v->v.sized->v.count<=100000->0<=deep->deep<=9 ->
  Calls Tryz.prog 36 #[.agg #[.int .i64 v.kind,.string v.text,.int .i64 v.int,.float .f64 v.real,.bool v.flag,.slice a v.list.length cap],.int .i64 deep] w fun e w' => e=.returned (.bool (v.allb deep))/\Below w.heap.size w w' := by
 induction v using V.ind with
 | h v ih=>
 intro a cap deep w hv g hcnt hd0 hd9;replace ih:=Hd ih;have ad:=((V.sized_eq v).1 g).1;have ae:=Hd (((V.sized_eq v).1 g).2);have af:v.list.length<=100000:=by have:=V.length_le v.list;have:=v.count_list_lt;omega
 have aa:=Hd ((Below.refl w.heap.size w).alloc (Nat.le_refl _) (.cells #[.int .i64 v.kind,.string v.text,.int .i64 v.int,.float .f64 v.real,.bool v.flag,.slice a v.list.length cap] 26));have g5:(w.alloc (.cells #[.int .i64 v.kind,.string v.text,.int .i64 v.int,.float .f64 v.real,.bool v.flag,.slice a v.list.length cap] 26)).cell? ⟨w.heap.size,5,none⟩=some (.slice a v.list.length cap):=by rw [World.cell?_alloc_new];rfl
 have m:=Hd (V.allb_eq v deep);replace g5:=Hd g5;replace hv:=Hd hv;clear g
 go_enter Tryz.func36,Tryz.ntmps36
 go_wp2_with fail
 refine (own_any v a cap _ ad af).mono ?_;rintro e w1 ⟨rfl,y⟩;have l:Below w.heap.size w w1:=aa.out.trans (y.mono (by simp));have g5:=Aa y _ _ g5.out;clear y;cases hok:okV v with
 | false=>
  rw [hok] at m;replace hok:=Hd hok;go_wp2;go_ret;exact ⟨by rw [m.out];simp,l⟩
 | true=>
 by_cases hd8:8<deep
 ·go_wp2
  go_ret;exact ⟨by rw [m.out,decide_eq_false (show ¬deep<=8 by omega)];simp,l⟩
 ·have i:v.allb deep=V.allbL v.list (deep+1):=by rw [m.out,hok,decide_eq_true (show deep<=8 by omega)];rfl
  replace i:=Hd i;replace hok:=Hd hok;clear m;go_wp2_with fail
  go_loopw [17] (fun s17 wr=>∃j:Nat,j<=v.list.length/\s17=.int .i64 j/\V.allbL (v.list.take j) (deep+1)=true/\Below w.heap.size w wr) (fun s17 _=>v.list.length - (intOf s17).toNat)
  case atStart=>exact ⟨0,Nat.zero_le _,rfl,by simp [V.allbL],l⟩
  case round=>
   obtain ⟨j,hj,rfl,k,c⟩:=hrel;clear l g5;replace k:=Hd k;by_cases hlt:j<v.list.length
   ·obtain ⟨x,b,o,a', r, z,f,rfl,hx,d0,d1,d2,d3,d4,d5⟩:=hv.out.elem' hlt
    have ag:=World.block_lt_of_cell? _ _ d0;have up:∀(q:Nat) u,w.cell? ⟨b,q,none⟩=some u->wr.cell? ⟨b,q,none⟩=some u:=fun q u h=>by rw [c.cell (by exact ag)];exact h
    replace d0:=up _ _ d0;replace d1:=up _ _ d1;replace d2:=up _ _ d2;replace d3:=up _ _ d3;replace d4:=up _ _ d4;replace d5:=up _ _ d5;have ah := Hd (hx.mono (Aa (c.trans ((Below.refl wr.heap.size wr).alloc (Nat.le_refl _) (.cells #[.int .i64 x.kind,.string x.text,.int .i64 x.int,.float .f64 x.real,.bool x.flag,.slice a' x.list.length r] 26) |>.mono c.size))));have ai:x.count<=100000:=by have:=V.count_mem f;have:=v.count_list_lt;omega
    have s:v.list.take (j+1)=v.list.take j++[x]:=by
     obtain ⟨h1,h2⟩:=List.getElem?_eq_some_iff.1 z;rw [List.take_succ_eq_append_getElem h1,h2]
    have n:Below w.heap.size w (wr.alloc (.cells #[.int .i64 x.kind,.string x.text,.int .i64 x.int,.float .f64 x.real,.bool x.flag,.slice a' x.list.length r] 26)):=c.alloc c.size _;replace z:=Hd z;replace f:=Hd f;replace s:=Hd s;replace n:=Hd n;clear up hx;have aj:=Hd (V.sizedL_mem ae.out x f.out);by_cases h14:x.kind=14
    ·have ab:(x.kind == 14)=true:=by simpa using h14
     have t:=Hd (V.allbL_no (d:=deep+1) f.out (Or.inl h14));replace h14:=Hd h14;go_wp2;go_ret;exact ⟨by rw [i.out,t.out];rfl,n.out⟩
    ·have ab:(x.kind == 14)=false:=by simpa using h14
     replace h14:=Hd h14;go_wp2_with fail
     refine (ih.out x f.out a' r (deep+1) _ ah.out aj.out ai (by omega) (by omega)).mono ?_;rintro e w4 ⟨rfl,ac⟩;have p:Below w.heap.size w w4:=n.out.trans (ac.mono n.out.size);clear ac c d0 d1 d2 d3 d4 d5;cases hxa:x.allb (deep+1) with
     | false=>
      have t:=Hd (V.allbL_no (d:=deep+1) f.out (Or.inr hxa));replace hxa:=Hd hxa;go_wp2;go_ret;exact ⟨by rw [i.out,t.out];rfl,p⟩
     | true=>
      replace hxa:=Hd hxa;go_wp2
      go_roundw
      case rel=>exact ⟨j+1,by omega,by go_num,by rw [s.out,V.allbL_snoc,k.out,hxa.out];simp [h14.out],p⟩
      case measure=>simp [intOf];omega
   ·have ak:j=v.list.length:=by omega
    subst ak;rw [List.take_length] at k;go_wp2;go_ret;exact ⟨by rw [i.out,k.out];rfl,c⟩
theorem rright_any (v:V) (a:Option Addr) (cap:Nat) (w:World) (hv:RV w.cell? (Ao v.kind v.text v.int v.real v.flag a v.list.length cap) v) (hs:v.sized) (hc:v.count<=100000) :
  Calls Tryz.prog 18 #[.agg #[.int .i64 v.kind,.string v.text,.int .i64 v.int,.float .f64 v.real,.bool v.flag,.slice a v.list.length cap]] w fun e w' => e=.returned (.bool (Ez v))/\Below w.heap.size w w' := by
 obtain ⟨W1,hW1⟩:∃W1,W1=w.alloc (.cells #[.int .i64 v.kind,.string v.text,.int .i64 v.int,.float .f64 v.real,.bool v.flag,.slice a v.list.length cap] 26):=⟨_,rfl⟩;have d:Below w.heap.size w W1:=by rw [hW1];exact (Below.refl _ _).alloc (Nat.le_refl _) _
 have hB:∀q u,#[.int .i64 v.kind,.string v.text,.int .i64 v.int,.float .f64 v.real,.bool v.flag,.slice a v.list.length cap][q]?=some u->W1.cell? ⟨w.heap.size,q,none⟩=some u:=fun q u h=>by rw [hW1,World.cell?_alloc_new];exact h
 have g:=Hd (hv.mono (Aa d));replace hW1:=Hd hW1;replace d:=Hd d;replace hB:=Hd hB;have hdc:=v.dep_count;clear hv
 go_enter Tryz.func18,Tryz.ntmps18
 go_wp2_with fail
 rw [<-hW1.out];refine (all_any03 v a cap 0 W1 g.out hs hc (by omega) (by omega)).mono ?_;rintro e w1 ⟨rfl,c⟩;have i:=d.out.trans (c.mono d.out.size);cases hal:v.allb 0 with
 | false=>
  have hr:Ez v=false:=by simp [Ez,hal]
  replace hr:=Hd hr;replace hal:=Hd hal;go_wp2;go_ret;exact ⟨by rw [hr.out];rfl,i⟩
 | true=>
 replace hal:=Hd hal;have g0:=Aa c _ _ (hB.out 0 (.int .i64 v.kind) rfl);have g1:=Aa c _ _ (hB.out 1 (.string v.text) rfl);have g2:=Aa c _ _ (hB.out 2 (.int .i64 v.int) rfl);have g3:=Aa c _ _ (hB.out 3 (.float .f64 v.real) rfl);have g4:=Aa c _ _ (hB.out 4 (.bool v.flag) rfl);have g5:=Aa c _ _ (hB.out 5 (.slice a v.list.length cap) rfl);go_wp2_with fail
 refine (rdepth_any v a cap w1 (g.out.mono (Aa c)) hc).mono ?_;rintro e w2 ⟨rfl,k⟩;have b:=c.trans (k.mono c.size);have f:=d.out.trans (b.mono d.out.size);clear g0 g1 g2 g3 g4 g5;by_cases hd:v.dep<=8
 ·have g0:=Aa b _ _ (hB.out 0 (.int .i64 v.kind) rfl)
  have g1:=Aa b _ _ (hB.out 1 (.string v.text) rfl);have g2:=Aa b _ _ (hB.out 2 (.int .i64 v.int) rfl);have g3:=Aa b _ _ (hB.out 3 (.float .f64 v.real) rfl);have g4:=Aa b _ _ (hB.out 4 (.bool v.flag) rfl);have g5:=Aa b _ _ (hB.out 5 (.slice a v.list.length cap) rfl);go_wp2_with fail
  refine (rcount_any v a cap w2 (g.out.mono (Aa b)) hc).mono ?_;rintro e w3 ⟨rfl,l⟩;have j:=f.trans (l.mono f.size);have hr:Ez v=decide (v.count<=1000):=by simp [Ez,hal.out,hd]
  replace hr:=Hd hr;go_wp2;go_ret;exact ⟨by rw [hr.out];simp;omega,j⟩
 ·have hr:Ez v=false:=by simp [Ez,hd]
  replace hr:=Hd hr;go_wp2;go_ret;exact ⟨by rw [hr.out];rfl,f⟩
