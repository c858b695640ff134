/- What the document's functions say of a value. -/
import Derived.Test.YtagkgfniihiinaaGreatDoorJ61
import Derived.Deep.DeepCutAuto
set_option linter.all false
namespace Go.Proofs.YtagkgfniihiinaaGreatDoor
open Go.RowKit
theorem Bd (k:Int) (w:World):Calls Tryz.prog 54 #[.int .i64 k] w fun e w' => e=.returned (.bool (Ak k))/\w' = w:=by
 by_cases h5:k=5
 · subst h5
   go_enter Tryz.func54,Tryz.ntmps54
   go_wp2;go_ret;exact ⟨rfl,rfl⟩
 · have h5b:(k == 5)=false:=by simpa using h5
   replace h5:=Hd h5;by_cases h12:12<=k
   · by_cases h14:k<=14
     · rw [show Ak k=true by simp [Ak];omega]
       go_enter Tryz.func54,Tryz.ntmps54
       go_wp2;go_ret;exact ⟨rfl,rfl⟩
     · rw [show Ak k=false by have:=h5.out;simp [Ak];omega]
       go_enter Tryz.func54,Tryz.ntmps54
       go_wp2;go_ret;exact ⟨rfl,rfl⟩
   · rw [show Ak k=false by have:=h5.out;simp [Ak];omega]
     go_enter Tryz.func54,Tryz.ntmps54
     go_wp2;go_ret;exact ⟨rfl,rfl⟩
theorem Da (k:Int) (w:World):Calls Tryz.prog 83 #[.int .i64 k] w fun e w' => e=.returned (.bool (Bj k))/\w' = w:=by
 rcases (by omega:k=1\/k=2\/k=4\/(k≠1/\k≠2/\k≠4)) with rfl | rfl | rfl | ⟨h1,h2,h4⟩
 · go_enter Tryz.func83,Tryz.ntmps83
   go_wp2;go_ret;exact ⟨rfl,rfl⟩
 · go_enter Tryz.func83,Tryz.ntmps83
   go_wp2;go_ret;exact ⟨rfl,rfl⟩
 · go_enter Tryz.func83,Tryz.ntmps83
   go_wp2;go_ret;exact ⟨rfl,rfl⟩
 · have h1b:(k == 1)=false:=by simpa using h1
   have h2b:(k == 2)=false:=by simpa using h2
   have h4b:(k == 4)=false:=by simpa using h4
   replace h1:=Hd h1;replace h2:=Hd h2;replace h4:=Hd h4;by_cases h9:9<=k
   · by_cases h11:k<=11
     · rw [show Bj k=true by simp [Bj];omega]
       go_enter Tryz.func83,Tryz.ntmps83
       go_wp2;go_ret;exact ⟨rfl,rfl⟩
     · rw [show Bj k=false by have:=h1.out;have:=h2.out;have:=h4.out;simp [Bj];omega]
       go_enter Tryz.func83,Tryz.ntmps83
       go_wp2;go_ret;exact ⟨rfl,rfl⟩
   · rw [show Bj k=false by have:=h1.out;have:=h2.out;have:=h4.out;simp [Bj];omega]
     go_enter Tryz.func83,Tryz.ntmps83
     go_wp2;go_ret;exact ⟨rfl,rfl⟩
set_option maxRecDepth 100000 in
set_option maxHeartbeats 3200000 in
theorem rcount_any (v:V):∀(a:Option Addr) (cap:Nat) (w:World),RV w.cell? (An v.kind v.text v.int v.real v.flag a v.list.length cap) v->v.count<=100000 ->
   Calls Tryz.prog 38 #[.agg #[.int .i64 v.kind,.string v.text,.int .i64 v.int,.float .f64 v.real,.bool v.flag,.slice a v.list.length cap]] w fun e w' => e=.returned (.int .i64 v.count)/\Below w.heap.size w w' := by
 induction v using V.ind with
 | h v ih=>
 intro a cap w hv hcnt
 replace ih:=Hd ih
 replace hv:=Hd hv
 have hn5:v.list.length<=100000:=by have:=V.length_le v.list;have:=v.count_list_lt;omega
 have hal0:=(Below.refl w.heap.size w).alloc (Nat.le_refl _) (.cells #[.int .i64 v.kind,.string v.text,.int .i64 v.int,.float .f64 v.real,.bool v.flag,.slice a v.list.length cap] 26)
 replace hal0:=Hd hal0
 go_enter Tryz.func38,Tryz.ntmps38
 go_wp2_with fail
 go_loopw [3,9] (fun s3 s9 wr=>∃j:Nat,j<=v.list.length/\s9=.int .i64 j/\s3=.int .i64 ((V.countL (v.list.take j)+1:Nat):Int)/\Below w.heap.size w wr) (fun _ s9 _=>v.list.length - (intOf s9).toNat)
 case atStart=>exact ⟨0,Nat.zero_le _,rfl,rfl,hal0.out⟩
 case round=>
   obtain ⟨j,hj,rfl,rfl,hbel⟩:=hrel;clear hal0;by_cases hlt:j<v.list.length
   · obtain ⟨x,b,o,a', cap', hxj,hmem,rfl,hx,d0,d1,d2,d3,d4,d5⟩:=hv.out.elem' hlt
     have hbw:=World.block_lt_of_cell? _ _ d0;have up:∀(q:Nat) u,w.cell? ⟨b,q,none⟩=some u->wr.cell? ⟨b,q,none⟩=some u:=fun q u h=>by rw [hbel.cell (by exact hbw)];exact h
     replace d0:=up _ _ d0;replace d1:=up _ _ d1;replace d2:=up _ _ d2;replace d3:=up _ _ d3;replace d4:=up _ _ d4;replace d5:=up _ _ d5;have hx' := hx.mono (Aa (hbel.trans ((Below.refl wr.heap.size wr).alloc (Nat.le_refl _) (.cells #[.int .i64 x.kind,.string x.text,.int .i64 x.int,.float .f64 x.real,.bool x.flag,.slice a' x.list.length cap'] 26) |>.mono hbel.size)));have hxc:x.count<=100000:=by have:=V.count_mem hmem;have:=v.count_list_lt;omega
     have hts:v.list.take (j+1)=v.list.take j++[x]:=by
       obtain ⟨h1,h2⟩:=List.getElem?_eq_some_iff.1 hxj;rw [List.take_succ_eq_append_getElem h1,h2]
     have hal:Below w.heap.size w (wr.alloc (.cells #[.int .i64 x.kind,.string x.text,.int .i64 x.int,.float .f64 x.real,.bool x.flag,.slice a' x.list.length cap'] 26)):=hbel.alloc hbel.size _;replace hx' := Hd hx';replace hxj:=Hd hxj;replace hmem:=Hd hmem;replace hts:=Hd hts;replace hal:=Hd hal;clear up hx;have hcj:=V.countL_take v.list j;have hcv:=v.count_list_lt;obtain ⟨m,hm⟩:∃m,m=V.countL (v.list.take j):=⟨_,rfl⟩;rw [<-hm] at hcj ⊢;replace hm:=Hd hm;go_wp2_with fail
     refine (ih.out x hmem.out a' cap' _ hx'.out hxc).mono ?_;rintro e w4 ⟨rfl,hb4⟩;have hbel4:Below w.heap.size w w4:=hal.out.trans (hb4.mono hal.out.size);clear hb4 hbel d0 d1 d2 d3 d4 d5;go_wp2
     go_roundw
     case rel=>exact ⟨j+1,by omega,by go_num,by rw [hts.out,V.countL_append];simp only [V.countL,Nat.add_zero];rw [<-hm.out];congr 1;omega,hbel4⟩
     case measure=>simp [intOf];omega
   · have hjn:j=v.list.length:=by omega
     subst hjn;rw [List.take_length];go_wp2;go_ret;exact ⟨by rw [V.count_eq];rfl,hbel⟩
set_option maxRecDepth 100000 in
set_option maxHeartbeats 3200000 in
theorem rdepth_any (v:V):∀(a:Option Addr) (cap:Nat) (w:World),RV w.cell? (An v.kind v.text v.int v.real v.flag a v.list.length cap) v->v.count<=100000 ->
   Calls Tryz.prog 37 #[.agg #[.int .i64 v.kind,.string v.text,.int .i64 v.int,.float .f64 v.real,.bool v.flag,.slice a v.list.length cap]] w fun e w' => e=.returned (.int .i64 v.dep)/\Below w.heap.size w w' := by
 induction v using V.ind with
 | h v ih=>
 intro a cap w hv hcnt
 replace ih:=Hd ih
 replace hv:=Hd hv
 have hn5:v.list.length<=100000:=by have:=V.length_le v.list;have:=v.count_list_lt;omega
 have hal0:=(Below.refl w.heap.size w).alloc (Nat.le_refl _) (.cells #[.int .i64 v.kind,.string v.text,.int .i64 v.int,.float .f64 v.real,.bool v.flag,.slice a v.list.length cap] 26)
 replace hal0:=Hd hal0
 cases hlk:Ak v.kind with
 | false=>
   have hz:v.dep=0:=by rw [V.dep_eq,hlk];rfl
   replace hz:=Hd hz;replace hlk:=Hd hlk
   go_enter Tryz.func37,Tryz.ntmps37
   go_wp2_with fail
   refine (Bd v.kind _).mono ?_;rintro e w1 ⟨rfl,hw1⟩;rw [hw1,hlk.out];go_wp2;go_ret;exact ⟨by rw [hz.out];rfl,hal0.out⟩
 | true=>
   have hz:v.dep=V.depL v.list+1:=by rw [V.dep_eq,hlk];rfl
   replace hz:=Hd hz;replace hlk:=Hd hlk
   go_enter Tryz.func37,Tryz.ntmps37
   go_wp2_with fail
   refine (Bd v.kind _).mono ?_;rintro e w1 ⟨rfl,hw1⟩;rw [hw1,hlk.out];go_wp2_with fail
   go_loopw [3,6,14] (fun s3 _ s20 wr=>∃j:Nat,j<=v.list.length/\s20=.int .i64 j/\s3=.int .i64 (V.depL (v.list.take j)+1)/\Below w.heap.size w wr) (fun _ _ s20 _=>v.list.length - (intOf s20).toNat)
   case atStart=>exact ⟨0,Nat.zero_le _,rfl,rfl,hal0.out⟩
   case round=>
     obtain ⟨j,hj,rfl,rfl,hbel⟩:=hrel;clear hal0 hw1;by_cases hlt:j<v.list.length
     · obtain ⟨x,b,o,a', cap', hxj,hmem,rfl,hx,d0,d1,d2,d3,d4,d5⟩:=hv.out.elem' hlt
       have hbw:=World.block_lt_of_cell? _ _ d0;have up:∀(q:Nat) u,w.cell? ⟨b,q,none⟩=some u->wr.cell? ⟨b,q,none⟩=some u:=fun q u h=>by rw [hbel.cell (by exact hbw)];exact h
       replace d0:=up _ _ d0;replace d1:=up _ _ d1;replace d2:=up _ _ d2;replace d3:=up _ _ d3;replace d4:=up _ _ d4;replace d5:=up _ _ d5;have hx' := hx.mono (Aa (hbel.trans ((Below.refl wr.heap.size wr).alloc (Nat.le_refl _) (.cells #[.int .i64 x.kind,.string x.text,.int .i64 x.int,.float .f64 x.real,.bool x.flag,.slice a' x.list.length cap'] 26) |>.mono hbel.size)));have hxc:x.count<=100000:=by have:=V.count_mem hmem;have:=v.count_list_lt;omega
       have hts:v.list.take (j+1)=v.list.take j++[x]:=by
         obtain ⟨h1,h2⟩:=List.getElem?_eq_some_iff.1 hxj;rw [List.take_succ_eq_append_getElem h1,h2]
       have hal:Below w.heap.size w (wr.alloc (.cells #[.int .i64 x.kind,.string x.text,.int .i64 x.int,.float .f64 x.real,.bool x.flag,.slice a' x.list.length cap'] 26)):=hbel.alloc hbel.size _;replace hx' := Hd hx';replace hxj:=Hd hxj;replace hmem:=Hd hmem;replace hts:=Hd hts;replace hal:=Hd hal;clear up hx;have hxd:=x.dep_count;obtain ⟨m,hm⟩:∃m,m=V.depL (v.list.take j):=⟨_,rfl⟩;rw [<-hm];replace hm:=Hd hm;go_wp2_with fail
       refine (ih.out x hmem.out a' cap' _ hx'.out hxc).mono ?_;rintro e w4 ⟨rfl,hb4⟩;have hbel4:Below w.heap.size w w4:=hal.out.trans (hb4.mono hal.out.size);clear hb4 hbel d0 d1 d2 d3 d4 d5;by_cases hmx:m<x.dep
       all_goals
         go_wp2
         go_roundw
         case rel=>exact ⟨j+1,by omega,by go_num,by rw [hts.out,V.depL_snoc,<-hm.out]<;>exact congrArg (Value.int .i64) (by omega),hbel4⟩
         case measure=>simp [intOf];omega
     · have hjn:j=v.list.length:=by omega
       subst hjn;rw [List.take_length];go_wp2;go_ret;exact ⟨by rw [hz.out];rfl,hbel⟩
theorem D3 {l:List UInt8} {A i:Nat} {x:UInt8} (hA:A<=i) (hx:l[i]?=some x) (h:digB x=false):(l.drop A).all digB=false:=by
 rw [List.all_eq_false];refine ⟨x,?_,by simp [h]⟩;have:(l.drop A)[i - A]?=some x:=by rw [List.getElem?_drop,show A+(i - A)=i by omega];exact hx
 exact List.mem_of_getElem? this
theorem F1 {l:List UInt8} {A i:Nat} {x:UInt8} (hA:A<=i) (hx:l[i]?=some x) (h:((l.take i).drop A).all digB=true) (hd:digB x=true):((l.take (i+1)).drop A).all digB=true:=by
 obtain ⟨hi,he⟩:=List.getElem?_eq_some_iff.1 hx;rw [List.take_succ_eq_append_getElem hi,he,List.drop_append_of_le_length (by rw [List.length_take];omega),List.all_append,h];simp [hd]
theorem okV_eq {v:V} (h:(Cc v.kind && Bz v)=true):okV v=(Bv v.kind v.text v.list.length && decide (v.text.size<=4096)):=by
 unfold okV;rw [h,Bool.true_and]
theorem crlf_hit {t:ByteArray} {i:Nat} {x:UInt8} (h:Lib.NoAny t.data.toList [13,10] i) (hx:t.data.toList[i]?=some x) (hc:x=13\/x=10):Fv t=true:=by
 unfold Fv Lib.containsAny;rw [Lib.indexAny_hit h hx (by rcases hc with rfl | rfl<;>decide)]
 simp
theorem crlf_none {t:ByteArray} (h:Lib.NoAny t.data.toList [13,10] t.size):Fv t=false:=by
 unfold Fv Lib.containsAny;rw [Lib.indexAny_none (by rw [<-Lib.size_eq];exact h)];decide
theorem colon_slice (t:ByteArray):(decide (4<=t.size) && ((t.extract 3 4).toList == [58]))=Dj t:=by
 unfold Dj;by_cases h:3<t.size
 · rw [dif_pos h]
   have e:(t.extract 3 4).toList=[t[3]'h]:=by
     rw [Lib.toList_data,ByteArray.data_extract,Array.toList_extract];have hl:3<t.data.toList.length:=by simpa using h
     rw [List.extract_eq_take_drop,List.drop_eq_getElem_cons hl];rfl
   rw [e,decide_eq_true (by omega)];rw [Bool.eq_iff_iff];simp
 · rw [dif_neg h,decide_eq_false (by omega)]
   rfl
set_option maxRecDepth 100000 in
set_option maxHeartbeats 12800000 in
theorem own_any (v:V) (a:Option Addr) (cap:Nat) (w:World) (hs:v.text.size<=9223372036854775807) (hn:v.list.length<=100000) :
   Calls Tryz.prog 53 #[.agg #[.int .i64 v.kind,.string v.text,.int .i64 v.int,.float .f64 v.real,.bool v.flag,.slice a v.list.length cap]] w fun e w' => e=.returned (.bool (okV v))/\Below w.heap.size w w' := by
 obtain ⟨W1,hW1⟩:∃W1,W1=w.alloc (.cells #[.int .i64 v.kind,.string v.text,.int .i64 v.int,.float .f64 v.real,.bool v.flag,.slice a v.list.length cap] 26):=⟨_,rfl⟩
 have hb0:Below w.heap.size w W1:=by rw [hW1];exact (Below.refl _ _).alloc (Nat.le_refl _) _
 have g0:W1.cell? ⟨w.heap.size,0,none⟩=some (.int .i64 v.kind):=by rw [hW1,World.cell?_alloc_new];rfl
 have g1:W1.cell? ⟨w.heap.size,1,none⟩=some (.string v.text):=by rw [hW1,World.cell?_alloc_new];rfl
 have g2:W1.cell? ⟨w.heap.size,2,none⟩=some (.int .i64 v.int):=by rw [hW1,World.cell?_alloc_new];rfl
 have g3:W1.cell? ⟨w.heap.size,3,none⟩=some (.float .f64 v.real):=by rw [hW1,World.cell?_alloc_new];rfl
 have g4:W1.cell? ⟨w.heap.size,4,none⟩=some (.bool v.flag):=by rw [hW1,World.cell?_alloc_new];rfl
 have g5:W1.cell? ⟨w.heap.size,5,none⟩=some (.slice a v.list.length cap):=by rw [hW1,World.cell?_alloc_new];rfl
 have hbt:=fun (W:World)=>Cf v.real W
 replace hW1:=Hd hW1
 replace hb0:=Hd hb0
 replace hbt:=Hd hbt
 generalize hnl:v.list.length=n at *
 replace hnl:=Hd hnl
 go_enter Tryz.func53,Tryz.ntmps53
 go_upto_region 1 with fail
 rw [<-hW1.out]
 generalize (Value.agg #[.int .i64 v.kind,.string v.text,.int .i64 v.int,.float .f64 v.real,.bool v.flag,.slice a n cap])=V0
 go_cut [65] (fun s65 wx=>s65=.bool (!(Cc v.kind && Bz v))/\wx=W1)
 case first=>
   by_cases h1:v.kind<1
   · have hk:Cc v.kind=false:=by simp [Cc];omega
     replace hk:=Hd hk;go_wp2
     go_meet
     exact ⟨by rw [hk.out];rfl,rfl⟩
   by_cases h14:14<v.kind
   · have hk:Cc v.kind=false:=by simp [Cc];omega
     replace hk:=Hd hk;go_wp2
     go_meet
     exact ⟨by rw [hk.out];rfl,rfl⟩
   have hk:Cc v.kind=true:=by simp [Cc];omega
   replace hk:=Hd hk;rcases classK v.kind with h | h | h | h | h | h
   all_goals
     simp only [Prod.mk.injEq] at h
     obtain ⟨q1,q2,q3,q4,q5⟩:=h
     have hnv:Bz v=Bi (Bj v.kind) (numK v.kind) (Bn v.kind) (Bq v.kind) (Ak v.kind) v:=rfl
     rw [q1,q2,q3,q4,q5] at hnv
     replace hnv:=Hd hnv
   · have e3:(v.kind != 3)=true:=by simp [numK] at q2;simpa using q2
     have e7:(v.kind != 7)=true:=by simp [Bn] at q3;simpa using q3
     have e8:(v.kind != 8)=true:=by simp [Bq] at q4;simpa using q4
     go_wp2_with (first
       | (go_at_call 83;refine (Da v.kind _).mono ?_;rintro e w' ⟨rfl,hw⟩;rw [hw])
       | (go_at_call 39;refine (hbt.out _).mono ?_;rintro e w' ⟨rfl,hw⟩;rw [hw])
       | (go_at_call 54;refine (Bd v.kind _).mono ?_;rintro e w' ⟨rfl,hw⟩;rw [hw]))
     all_goals
       go_meet
       refine ⟨congrArg Value.bool ?_,rfl⟩
       rw [hk.out,hnv.out]
       simp [Bi,Ec,hnl.out, *]
       try (by_cases hz:n=0<;>simp [hz]<;>omega)
   · have e3:(v.kind != 3)=false:=by simp [numK] at q2;simpa using q2
     have e7:(v.kind != 7)=true:=by simp [Bn] at q3;simpa using q3
     have e8:(v.kind != 8)=true:=by simp [Bq] at q4;simpa using q4
     go_wp2_with (first
       | (go_at_call 83;refine (Da v.kind _).mono ?_;rintro e w' ⟨rfl,hw⟩;rw [hw])
       | (go_at_call 39;refine (hbt.out _).mono ?_;rintro e w' ⟨rfl,hw⟩;rw [hw])
       | (go_at_call 54;refine (Bd v.kind _).mono ?_;rintro e w' ⟨rfl,hw⟩;rw [hw]))
     all_goals
       go_meet
       refine ⟨congrArg Value.bool ?_,rfl⟩
       rw [hk.out,hnv.out]
       simp [Bi,Ec,hnl.out, *]
       try (by_cases hz:n=0<;>simp [hz]<;>omega)
   · have e3:(v.kind != 3)=true:=by simp [numK] at q2;simpa using q2
     have e7:(v.kind != 7)=false:=by simp [Bn] at q3;simpa using q3
     have e8:(v.kind != 8)=true:=by simp [Bq] at q4;simpa using q4
     go_wp2_with (first
       | (go_at_call 83;refine (Da v.kind _).mono ?_;rintro e w' ⟨rfl,hw⟩;rw [hw])
       | (go_at_call 39;refine (hbt.out _).mono ?_;rintro e w' ⟨rfl,hw⟩;rw [hw])
       | (go_at_call 54;refine (Bd v.kind _).mono ?_;rintro e w' ⟨rfl,hw⟩;rw [hw]))
     all_goals
       go_meet
       refine ⟨congrArg Value.bool ?_,rfl⟩
       rw [hk.out,hnv.out]
       simp [Bi,Ec,hnl.out, *]
       try (by_cases hz:n=0<;>simp [hz]<;>omega)
   · have e3:(v.kind != 3)=true:=by simp [numK] at q2;simpa using q2
     have e7:(v.kind != 7)=true:=by simp [Bn] at q3;simpa using q3
     have e8:(v.kind != 8)=false:=by simp [Bq] at q4;simpa using q4
     go_wp2_with (first
       | (go_at_call 83;refine (Da v.kind _).mono ?_;rintro e w' ⟨rfl,hw⟩;rw [hw])
       | (go_at_call 39;refine (hbt.out _).mono ?_;rintro e w' ⟨rfl,hw⟩;rw [hw])
       | (go_at_call 54;refine (Bd v.kind _).mono ?_;rintro e w' ⟨rfl,hw⟩;rw [hw]))
     all_goals
       go_meet
       refine ⟨congrArg Value.bool ?_,rfl⟩
       rw [hk.out,hnv.out]
       simp [Bi,Ec,hnl.out, *]
       try (by_cases hz:n=0<;>simp [hz]<;>omega)
   · have e3:(v.kind != 3)=true:=by simp [numK] at q2;simpa using q2
     have e7:(v.kind != 7)=true:=by simp [Bn] at q3;simpa using q3
     have e8:(v.kind != 8)=true:=by simp [Bq] at q4;simpa using q4
     go_wp2_with (first
       | (go_at_call 83;refine (Da v.kind _).mono ?_;rintro e w' ⟨rfl,hw⟩;rw [hw])
       | (go_at_call 39;refine (hbt.out _).mono ?_;rintro e w' ⟨rfl,hw⟩;rw [hw])
       | (go_at_call 54;refine (Bd v.kind _).mono ?_;rintro e w' ⟨rfl,hw⟩;rw [hw]))
     all_goals
       go_meet
       refine ⟨congrArg Value.bool ?_,rfl⟩
       rw [hk.out,hnv.out]
       simp [Bi,Ec,hnl.out, *]
       try (by_cases hz:n=0<;>simp [hz]<;>omega)
   · have e3:(v.kind != 3)=true:=by simp [numK] at q2;simpa using q2
     have e7:(v.kind != 7)=true:=by simp [Bn] at q3;simpa using q3
     have e8:(v.kind != 8)=true:=by simp [Bq] at q4;simpa using q4
     go_wp2_with (first
       | (go_at_call 83;refine (Da v.kind _).mono ?_;rintro e w' ⟨rfl,hw⟩;rw [hw])
       | (go_at_call 39;refine (hbt.out _).mono ?_;rintro e w' ⟨rfl,hw⟩;rw [hw])
       | (go_at_call 54;refine (Bd v.kind _).mono ?_;rintro e w' ⟨rfl,hw⟩;rw [hw]))
     all_goals
       go_meet
       refine ⟨congrArg Value.bool ?_,rfl⟩
       rw [hk.out,hnv.out]
       simp [Bi,Ec,hnl.out, *]
       try (by_cases hz:n=0<;>simp [hz]<;>omega)
 case rest=>
   obtain ⟨rfl,rfl⟩:=hcut;cases hkn:(Cc v.kind && Bz v) with
   | false=>
     have hok:okV v=false:=by unfold okV;rw [hkn];rfl
     replace hok:=Hd hok;replace hkn:=Hd hkn;clear g0 g1 g2 g3 g4 g5;go_wp2;go_ret;exact ⟨by rw [hok.out];rfl,hb0.out⟩
   | true=>
   have hok:=okV_eq hkn;have hlist:Ak v.kind=true->v.text.size=0:=fun h=>by
     simp only [Bool.and_eq_true,Bz,Bi,Bool.or_eq_true] at hkn;rcases hkn.2.1.1.1.1 with h1 | h1
     · simp only [Bj,Ak,decide_eq_true_eq] at h1 h;omega
     · simp only [Ec,List.isEmpty_iff] at h1
       rw [Lib.toList_data] at h1;have:=congrArg List.length h1;simpa using this
   rw [hnl.out] at hok;replace hok:=Hd hok;replace hkn:=Hd hkn;replace hlist:=Hd hlist;obtain ⟨t,ht⟩:∃t,t=v.text:=⟨_,rfl⟩;rw [<-ht] at g1 hok hlist hs;replace ht:=Hd ht;obtain ⟨k,hkk⟩:∃k,k=v.kind:=⟨_,rfl⟩;rw [<-hkk] at g0 hok hlist;replace hkk:=Hd hkk;clear g2 g3 g4;rcases (by omega:(k=1\/k=2)\/k=9\/k=11\/k=12\/k=14\/(k≠1/\k≠2/\k≠9/\k≠11/\k≠12/\k≠14)) with hk | rfl | rfl | rfl | rfl | h
   · have hok2:okV v=(!Fv t && decide (t.size<=4096)):=by rw [hok.out,Bv,if_pos hk]
     replace hok2:=Hd hok2;clear hok hlist;rcases hk with rfl | rfl
     all_goals
       go_wp2_with fail
       go_loop [3] (fun s3=>∃i:Nat,i<=t.size/\s3=.int .i64 i/\Lib.NoAny t.data.toList [13,10] i) (fun s3=>t.size - (intOf s3).toNat)
       case atStart=>exact ⟨0,Nat.zero_le _,rfl,Lib.NoAny.zero _ _⟩
       case round=>
         obtain ⟨i,hi,rfl,hno⟩:=hrel;replace hno:=Hd hno;by_cases hlt:i<t.size
         · obtain ⟨x,hx⟩:∃x:UInt8,t[i]'hlt=x:=⟨_,rfl⟩
           have hxl:t.data.toList[i]?=some x:=by rw [<-hx];exact Lib.data_getElem? t i hlt
           replace hxl:=Hd hxl;by_cases h10:x=10
           · have e:((x.toNat:Int) == 10)=true:=by subst h10;rfl
             have hc:=crlf_hit hno.out hxl.out (Or.inr h10);replace hc:=Hd hc;replace h10:=Hd h10;go_wp2;go_ret;exact ⟨by rw [hok2.out,hc.out];rfl,hb0.out⟩
           · have e:((x.toNat:Int) == 10)=false:=by
               have:x.toNat≠10:=fun h=>h10 (UInt8.toNat_inj.1 (by simpa using h));simp;omega
             by_cases h13:x=13
             · have e2:((x.toNat:Int) == 13)=true:=by subst h13;rfl
               have hc:=crlf_hit hno.out hxl.out (Or.inl h13);replace hc:=Hd hc;replace h13:=Hd h13;replace h10:=Hd h10;go_wp2;go_ret;exact ⟨by rw [hok2.out,hc.out];rfl,hb0.out⟩
             · have e2:((x.toNat:Int) == 13)=false:=by
                 have:x.toNat≠13:=fun h=>h13 (UInt8.toNat_inj.1 (by simpa using h));simp;omega
               have hns:=hno.out.succ hxl.out (by simp [h10,h13]);replace hns:=Hd hns;replace h10:=Hd h10;replace h13:=Hd h13;go_wp2
               go_round
               case rel=>exact ⟨i+1,by omega,by go_num,hns.out⟩
               case measure=>simp [intOf];omega
         · obtain rfl:i=t.size:=by omega
           have hc:=crlf_none hno.out;replace hc:=Hd hc;go_wp2;go_ret;exact ⟨by rw [hok2.out,hc.out];simp;omega,hb0.out⟩
   · have hfb:Bv 9 t n=bigB t:=by simp [Bv]
     have hokb:=hok.out;rw [hfb,bigB_eq] at hokb;clear hfb hok hlist;replace hokb:=Hd hokb;by_cases hz:t.size=0
     · have hno:okV v=false:=by
         rw [hokb.out];have:Ex t=0:=by
           unfold Ex;rw [if_neg];have:t.data.toList=[]:=List.length_eq_zero_iff.1 (by simpa using hz);rw [this];simp
         simp [this,hz]
       replace hno:=Hd hno;have t0:¬(0:Int)<(t.size:Int):=by omega
       have t1:((0:Int) == (t.size:Int))=true:=by simp;omega
       replace hz:=Hd hz;go_wp2;go_ret;exact ⟨by rw [hno.out];rfl,hb0.out⟩
     · have hpos:0<t.size:=by omega
       obtain ⟨x0,hx0⟩:∃x:UInt8,t[0]'hpos=x:=⟨_,rfl⟩;have hxl0:t.data.toList.head?=some x0:=by
         rw [List.head?_eq_getElem?,<-hx0];exact Lib.data_getElem? t 0 hpos
       have t0:(0:Int)<(t.size:Int):=by omega
       by_cases h45:x0=45
       · have hA:Ex t=1:=by unfold Ex;rw [hxl0,h45];rfl
         rw [hA] at hokb;have e45:((x0.toNat:Int) == 45)=true:=by subst h45;rfl
         clear hA hxl0;replace h45:=Hd h45;by_cases h1s:t.size=1
         · have hno:okV v=false:=by rw [hokb.out];simp [h1s]
           replace hno:=Hd hno;have t1:((1:Int) == (t.size:Int))=true:=by simp;omega
           replace h1s:=Hd h1s;replace hz:=Hd hz;go_wp2;go_ret;exact ⟨by rw [hno.out];rfl,hb0.out⟩
         · have hok2:okV v=((t.data.toList.drop 1).all digB && decide (t.size<=4096)):=by rw [hokb.out,decide_eq_true (show 1≠t.size by omega),Bool.true_and]
           have t1:((1:Int) == (t.size:Int))=false:=by simp;omega
           have h1s' : 1<=t.size:=by omega
           replace hok2:=Hd hok2;replace hz:=Hd hz;replace h1s:=Hd h1s;go_wp2_with fail
           go_loop [4] (fun s4=>∃i:Nat,1<=i/\i<=t.size/\s4=.int .i64 i/\((t.data.toList.take i).drop 1).all digB=true) (fun s4=>t.size - (intOf s4).toNat)
           case atStart=>exact ⟨1,Nat.le_refl _,by omega,rfl,by simp⟩
           case round=>
             obtain ⟨i,hai,hi,rfl,hall⟩:=hrel;replace hall:=Hd hall;have hlen:t.data.toList.length=t.size:=by simp
             replace hlen:=Hd hlen;by_cases hlt:i<t.size
             · obtain ⟨x,hx⟩:∃x:UInt8,t[i]'hlt=x:=⟨_,rfl⟩
               have hxl:t.data.toList[i]?=some x:=by rw [<-hx];exact Lib.data_getElem? t i hlt
               replace hxl:=Hd hxl;by_cases h48:x.toNat<48
               · have e:(x.toNat:Int)<48:=by omega
                 have hno:okV v=false:=by
                   rw [hok2.out,D3 hai hxl.out (by simp [digB];omega)];simp
                 replace hno:=Hd hno;replace h48:=Hd h48;go_wp2;go_ret;exact ⟨by rw [hno.out];rfl,hb0.out⟩
               · by_cases h57:57<x.toNat
                 · have e:¬(x.toNat:Int)<48:=by omega
                   have e2:(57:Int)<(x.toNat:Int):=by omega
                   have hno:okV v=false:=by
                     rw [hok2.out,D3 hai hxl.out (by simp [digB];omega)];simp
                   replace hno:=Hd hno;replace h48:=Hd h48;replace h57:=Hd h57;go_wp2;go_ret;exact ⟨by rw [hno.out];rfl,hb0.out⟩
                 · have e:¬(x.toNat:Int)<48:=by omega
                   have e2:¬(57:Int)<(x.toNat:Int):=by omega
                   have hst:=F1 hai hxl.out hall.out (by simp [digB];omega);replace hst:=Hd hst;replace h48:=Hd h48;replace h57:=Hd h57;go_wp2
                   go_round
                   case rel=>exact ⟨i+1,by omega,by omega,by go_num,hst.out⟩
                   case measure=>simp [intOf];omega
             · obtain rfl:i=t.size:=by omega
               have hfin:okV v=decide (t.size<=4096):=by
                 rw [hok2.out];have h1:=hall.out;rw [<-hlen.out,List.take_length] at h1;rw [h1];simp
               replace hfin:=Hd hfin;go_wp2;go_ret;exact ⟨by rw [hfin.out];simp;omega,hb0.out⟩
       · have hA:Ex t=0:=by unfold Ex;rw [hxl0,if_neg (by simpa using h45)]
         rw [hA] at hokb;have e45:((x0.toNat:Int) == 45)=false:=by
           have:x0.toNat≠45:=fun h=>h45 (UInt8.toNat_inj.1 (by simpa using h));simp;omega
         clear hA hxl0;replace h45:=Hd h45;have hok2:okV v=((t.data.toList.drop 0).all digB && decide (t.size<=4096)):=by rw [hokb.out,decide_eq_true (show 0≠t.size by omega),Bool.true_and]
         have t1:((0:Int) == (t.size:Int))=false:=by simp;omega
         replace hok2:=Hd hok2;replace hz:=Hd hz;go_wp2_with fail
         go_loop [4] (fun s4=>∃i:Nat,0<=i/\i<=t.size/\s4=.int .i64 i/\((t.data.toList.take i).drop 0).all digB=true) (fun s4=>t.size - (intOf s4).toNat)
         case atStart=>exact ⟨0,Nat.le_refl _,by omega,rfl,by simp⟩
         case round=>
           obtain ⟨i,hai,hi,rfl,hall⟩:=hrel;replace hall:=Hd hall;have hlen:t.data.toList.length=t.size:=by simp
           replace hlen:=Hd hlen;by_cases hlt:i<t.size
           · obtain ⟨x,hx⟩:∃x:UInt8,t[i]'hlt=x:=⟨_,rfl⟩
             have hxl:t.data.toList[i]?=some x:=by rw [<-hx];exact Lib.data_getElem? t i hlt
             replace hxl:=Hd hxl;by_cases h48:x.toNat<48
             · have e:(x.toNat:Int)<48:=by omega
               have hno:okV v=false:=by
                 rw [hok2.out,D3 hai hxl.out (by simp [digB];omega)];simp
               replace hno:=Hd hno;replace h48:=Hd h48;go_wp2;go_ret;exact ⟨by rw [hno.out];rfl,hb0.out⟩
             · by_cases h57:57<x.toNat
               · have e:¬(x.toNat:Int)<48:=by omega
                 have e2:(57:Int)<(x.toNat:Int):=by omega
                 have hno:okV v=false:=by
                   rw [hok2.out,D3 hai hxl.out (by simp [digB];omega)];simp
                 replace hno:=Hd hno;replace h48:=Hd h48;replace h57:=Hd h57;go_wp2;go_ret;exact ⟨by rw [hno.out];rfl,hb0.out⟩
               · have e:¬(x.toNat:Int)<48:=by omega
                 have e2:¬(57:Int)<(x.toNat:Int):=by omega
                 have hst:=F1 hai hxl.out hall.out (by simp [digB];omega);replace hst:=Hd hst;replace h48:=Hd h48;replace h57:=Hd h57;go_wp2
                 go_round
                 case rel=>exact ⟨i+1,by omega,by omega,by go_num,hst.out⟩
                 case measure=>simp [intOf];omega
           · obtain rfl:i=t.size:=by omega
             have hfin:okV v=decide (t.size<=4096):=by
               rw [hok2.out];have h1:=hall.out;rw [<-hlen.out,List.take_length] at h1;rw [h1];simp
             replace hfin:=Hd hfin;go_wp2;go_ret;exact ⟨by rw [hfin.out];simp;omega,hb0.out⟩
   · have hok2:okV v=(Dj t && decide (t.size<=4096)):=by rw [hok.out];simp [Bv]
     replace hok2:=Hd hok2;clear hok hlist;have hcs:=colon_slice t;replace hcs:=Hd hcs;by_cases h4:4<=t.size
     · have t0:(4:Int)<=(t.size:Int):=by omega
       by_cases hc:(t.extract 3 4).toList=[58]
       · have hcb:Dj t=true:=by rw [<-hcs.out,hc,decide_eq_true h4];rfl
         replace hcb:=Hd hcb;have e1:((t.extract 3 4).toList == [58])=true:=by rw [hc];rfl
         replace hc:=Hd hc;go_wp2;go_ret;exact ⟨by rw [hok2.out,hcb.out];simp;omega,hb0.out⟩
       · have e1:((t.extract 3 4).toList == [58])=false:=by simpa using hc
         have hcb:Dj t=false:=by rw [<-hcs.out,e1];simp
         replace hcb:=Hd hcb;replace hc:=Hd hc;go_wp2;go_ret;exact ⟨by rw [hok2.out,hcb.out];rfl,hb0.out⟩
     · have t0:¬(4:Int)<=(t.size:Int):=by omega
       have hcb:Dj t=false:=by rw [<-hcs.out,decide_eq_false h4];rfl
       replace hcb:=Hd hcb;go_wp2;go_ret;exact ⟨by rw [hok2.out,hcb.out];rfl,hb0.out⟩
   · have hz:=hlist.out rfl
     have hok2:okV v=decide (n % 2=0):=by rw [hok.out,hz];simp [Bv]
     replace hok2:=Hd hok2;replace hz:=Hd hz;clear hok hlist;go_wp2;go_ret;refine ⟨?_,hb0.out⟩;have:(((n:Int) % 2) == 0)=decide (n % 2=0):=by
       rw [Bool.eq_iff_iff];simp;omega
     rw [hok2.out];simp [<-this]
   · have hz:=hlist.out rfl
     have hok2:okV v=decide (0<n):=by rw [hok.out,hz];simp [Bv]
     replace hok2:=Hd hok2;replace hz:=Hd hz;clear hok hlist;go_wp2;go_ret;exact ⟨by rw [hok2.out];simp,hb0.out⟩
   · obtain ⟨q1,q2,q9,q11,q12,q14⟩:=h
     have hok2:okV v=decide (t.size<=4096):=by rw [hok.out];simp [Bv,q1,q2,q9,q11,q12,q14]
     replace hok2:=Hd hok2;have h1:(k == 1)=false:=by simpa using q1
     have h2:(k == 2)=false:=by simpa using q2
     have h9:(k == 9)=false:=by simpa using q9
     have h11:(k == 11)=false:=by simpa using q11
     have h12:(k == 12)=false:=by simpa using q12
     have h14:(k == 14)=false:=by simpa using q14
     clear q1 q2 q9 q11 q12 q14 hok hlist;go_wp2;go_ret;exact ⟨by rw [hok2.out];simp;omega,hb0.out⟩
end Go.Proofs.YtagkgfniihiinaaGreatDoor
