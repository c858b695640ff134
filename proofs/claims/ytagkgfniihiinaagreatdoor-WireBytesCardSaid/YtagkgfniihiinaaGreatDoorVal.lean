/- Values: how the document's functions go through them, and how they are copied. -/
import Derived.Test.YtagkgfniihiinaaGreatDoorProg
import Derived.Test.YtagkgfniihiinaaGreatDoorJ43
import Derived.Deep.LoopGhost
import Derived.Deep.QuietTactic
import Derived.BigQuiet
import Derived.Deep.DeepCutAuto
import Derived.Deep.RegionHeld3
import Derived.Deep.CutBlock
namespace Go.Proofs.YtagkgfniihiinaaGreatDoor
open Go.RowKit
theorem eVal : Elem Tryz.prog 24 26 6 72:=elem_of Tryz.underlying24 (by decide) (by decide) (by kernel_rfl)
theorem Ac : (Tryz.prog.info? 26).map (·.size) = some 6:=by kernel_rfl
theorem one6 (k : Int) (t : ByteArray) (i : Int) (r : Nat) (f : Bool) (a : Option Addr) (n cap : Nat) : (#[Value.int .i64 k,.string t,.int .i64 i,.float .f64 r,.bool f,.slice a n cap] : Array Value).all (·.oneCell') = true:=by
 simp [Value.oneCell']
theorem cells6_array (k : Int) (t : ByteArray) (i : Int) (r : Nat) (f : Bool) (a : Option Addr) (n cap : Nat) :
   (Ae k t i r f a n cap).toArray = #[.int .i64 k,.string t,.int .i64 i,.float .f64 r,.bool f,.slice a n cap]:=rfl
set_option maxRecDepth 100000 in
set_option maxHeartbeats 1600000 in
theorem shallow_any (v : V) : ∀ (k : Int) (t : ByteArray) (i : Int) (r : Nat) (f : Bool) (a : Option Addr) (n cap : Nat) (deep many : Int) (w : World),RV w.cell? (Ae k t i r f a n cap) v -> -2 <= deep -> deep <= 1000 -> many <= 100000 -> -10 <= many ->
   Calls Tryz.prog 35 #[.agg #[.int .i64 k,.string t,.int .i64 i,.float .f64 r,.bool f,.slice a n cap],.int .i64 deep,.int .i64 many] w fun e w' =>
     ∃ q : Int,e = .returned (.int .i64 q) /\ -1 <= q /\ (0 <= q -> (v.count : Int) + q <= many /\ (v.deep : Int) <= deep) /\ Below w.heap.size w w':=by
 induction v using V.ind with
 | h v ih =>
 intro k t i r f a n cap deep many w hv hd0 hd1 hm1 hm0
 replace ih:=Hd ih
 by_cases hdn : deep < 0
 · clear hv
   go_enter Tryz.func35,Tryz.ntmps35
   go_wp2;go_ret;exact ⟨-1,rfl,by omega,by omega,(Below.refl _ _).alloc (Nat.le_refl _) _⟩
 by_cases hmn : many < 1
 · clear hv
   go_enter Tryz.func35,Tryz.ntmps35
   go_wp2;go_ret;exact ⟨-1,rfl,by omega,by omega,(Below.refl _ _).alloc (Nat.le_refl _) _⟩
 obtain ⟨_,_,_,_,_,hnl⟩:=hv.len
 replace hnl:=Hd hnl
 go_enter Tryz.func35,Tryz.ntmps35
 go_wp2_with fail
 go_loopw [2,20] (fun m i wr => ∃ (j : Nat) (q : Int),j <= n /\ i = .int .i64 j /\ m = .int .i64 q /\ 0 <= q /\ (V.countL (v.list.take j) : Int) + q + 1 <= many /\ (V.deepL (v.list.take j) : Int) <= deep /\ Below w.heap.size w wr) (fun _ i _ => n - (intOf i).toNat)
 case atStart => exact ⟨0,many - 1,Nat.zero_le _,rfl,rfl,by omega,by simp [V.countL],by simp [V.deepL]; omega,(Below.refl _ _).alloc (Nat.le_refl _) _⟩
 case round =>
   obtain ⟨j,q,hj,rfl,rfl,hq0,hcn,hdp,hbel⟩:=hrel;by_cases hlt : j < n
   · obtain ⟨b,o,hjv,a',cap',rfl,hx,d0,d1,d2,d3,d4,d5⟩:=hv.elem hlt
     have hbw:=World.block_lt_of_cell? _ _ d0;have up : ∀ (q : Nat) u,w.cell? ⟨b,q,none⟩ = some u -> wr.cell? ⟨b,q,none⟩ = some u:=fun q u h => by rw [hbel.cell (by exact hbw)]; exact h
     replace d0:=up _ _ d0;replace d1:=up _ _ d1;replace d2:=up _ _ d2;replace d3:=up _ _ d3;replace d4:=up _ _ d4;replace d5:=up _ _ d5;have hts : v.list.take (j + 1) = v.list.take j ++ [v.list[j]]:=List.take_succ_eq_append_getElem hjv;have hmem : v.list[j] ∈ v.list:=List.getElem_mem hjv;have hjb : (j : Int) <= V.countL (v.list.take j):=by
       have:=V.length_le (v.list.take j);rw [List.length_take] at this;omega
     have hjc : (j : Int) <= 100000:=by omega
     obtain ⟨x,hxe⟩ : ∃ x,x = v.list[j]:=⟨_,rfl⟩;rw [<- hxe] at hx d0 d1 d2 d3 d4 d5 hts hmem;have hx':=hx.mono (Aa (hbel.trans ((Below.refl wr.heap.size wr).alloc (Nat.le_refl _) (.cells #[.int .i64 x.kind,.string x.text,.int .i64 x.int,.float .f64 x.real,.bool x.flag,.slice a' x.list.length cap'] 26) |>.mono hbel.size)));replace hts:=Hd hts;replace hmem:=Hd hmem;replace hx':=Hd hx';replace hcn:=Hd hcn;replace hdp:=Hd hdp;replace hxe:=Hd hxe;clear up hx hv;go_wp2_with fail
     refine (ih.out x hmem.out _ _ _ _ _ _ _ _ (deep - 1) q _ hx'.out (by omega) (by omega) (by have:=hcn.out; omega) (by omega)).mono ?_;rintro e w2 ⟨p,rfl,hp1,hp,hb2⟩;have hbel2 : Below w.heap.size w w2:=(hbel.alloc hbel.size _).trans (hb2.mono (by have:=hbel.size; simp; omega));clear hb2 hbel d0 d1 d2 d3 d4 d5;by_cases hpn : p < 0
     · go_wp2
       go_ret;exact ⟨-1,rfl,by omega,by omega,hbel2⟩
     · replace hp:=Hd hp
       go_wp2
       go_roundw
       case rel =>
         obtain ⟨h1,h2⟩:=hp.out (by omega);refine ⟨j + 1,p,by omega,by go_num,rfl,by omega,?_,?_,hbel2⟩
         · have:=hcn.out; rw [hts.out,V.countL_append]; simp only [V.countL]; omega
         · have h3:=hdp.out
           have : ∀ (l : List V) y,V.deepL (l ++ [y]) = max (V.deepL l) (y.deep + 1):=by
             intro l y;induction l with
             | nil => simp [V.deepL]
             | cons z l ih => simp only [List.cons_append,V.deepL,ih]; omega
           rw [hts.out,this]; omega
       case measure => simp [intOf]; omega
   · have hjn : j = n:=by omega
     subst hjn;rw [hnl.out,List.take_length] at hcn hdp;clear hv;go_wp2;go_ret;refine ⟨q,rfl,by omega,fun _ => ⟨?_,?_⟩,hbel⟩
     · cases v; simp only [V.count,V.list] at hcn ⊢; omega
     · cases v; simp only [V.deep,V.list] at hdp ⊢; omega
theorem small_any {v : V} {k : Int} {t : ByteArray} {i : Int} {r : Nat} {f : Bool} {a : Option Addr} {n cap : Nat} {w : World} (hv : RV w.cell? (Ae k t i r f a n cap) v) :
   Calls Tryz.prog 17 #[.agg #[.int .i64 k,.string t,.int .i64 i,.float .f64 r,.bool f,.slice a n cap]] w fun e w' =>
     ∃ b : Bool,e = .returned (.bool b) /\ (b = true -> v.count <= 3000 /\ v.deep <= 30) /\ Below w.heap.size w w':=by
 go_enter Tryz.func17,Tryz.ntmps17
 go_wp2_with fail
 refine (shallow_any v _ _ _ _ _ _ _ _ 30 3000 _ (hv.mono (Aa ((Below.refl _ _).alloc (Nat.le_refl _) _))) (by omega) (by omega) (by omega) (by omega)).mono ?_
 rintro e w1 ⟨q,rfl,hq1,hq,hb⟩
 have hbel : Below w.heap.size w w1:=((Below.refl _ _).alloc (Nat.le_refl _) _).trans (hb.mono (by simp))
 clear hv hb
 replace hq:=Hd hq
 go_wp2
 go_ret
 exact ⟨decide (0 <= q),rfl,fun h => by have h0 : 0 <= q:=by simpa using h
                                        have:=hq.out h0; omega,hbel⟩
theorem f64bits_run (r : Nat) (w : World) : (callFunc 55 #[.float .f64 r]).run Tryz.prog w = .ok (.value (.int .u64 r)) w:=by kernel_rfl
theorem Cl (r : Nat) (w : World) : Calls Tryz.prog 39 #[.float .f64 r] w fun e w' => e = .returned (.int .u64 (Do r)) /\ w' = w:=by
 have hf:=f64bits_run r;by_cases hn : nanB r = true
 · have e1 : (FloatKind.f64.format.order r r != some .eq) = true:=hn
   have e2 : Do r = 9221120237041090561:=by simp [Do,hn]
   rw [e2];clear hn e2
   go_enter Tryz.func39,Tryz.ntmps39
   go_wp2;go_ret;exact ⟨rfl,rfl⟩
 · have e1 : (FloatKind.f64.format.order r r != some .eq) = false:=by simpa [nanB] using hn
   have e2 : Do r = r:=by simp [Do,hn]
   rw [e2];clear hn e2
   go_enter Tryz.func39,Tryz.ntmps39
   go_wp2;go_ret;exact ⟨rfl,rfl⟩
end Go.Proofs.YtagkgfniihiinaaGreatDoor
