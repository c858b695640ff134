/- What a kind has; a value's bits; what a value has that its kind has not. -/
import Derived.Test.YtagkgfniihiinaaGreatDoorVal
import Derived.Test.YtagkgfniihiinaaGreatDoorJ43
import Derived.Test.YtagkgfniihiinaaGreatDoorShelf
import Derived.Laws.Runes
import Derived.Outline
import Derived.Laws.RangeAny
import Derived.Deep.LoopGhost
import Derived.Deep.QuietTactic
import Derived.BigQuiet
import Derived.Lib.OthersKept
import Derived.Shelf.Strings.SlTrimAscii
import Derived.Deep.DeepCutAuto
namespace Go.Proofs.YtagkgfniihiinaaGreatDoor
open Go.RowKit
def Cr (k : Int) : Bool:=decide (k = 1 \/ k = 2 \/ k = 4 \/ k = 9 \/ k = 10 \/ k = 11)
def numK (k : Int) : Bool:=decide (k = 3)
def Dx (k : Int) : Bool:=decide (k = 7)
def Dv (k : Int) : Bool:=decide (k = 8)
def Bw (k : Int) : Bool:=decide (k = 5 \/ k = 12 \/ k = 13 \/ k = 14)
def C1 (k : Int) : Bool:=decide (1 <= k /\ k <= 14)
def crlfB (s : ByteArray) : Bool:=Lib.containsAny s.data.toList [13,10]
theorem classK (k : Int) : (Cr k,numK k,Dx k,Dv k,Bw k) = (true,false,false,false,false) \/ (Cr k,numK k,Dx k,Dv k,Bw k) = (false,true,false,false,false) \/ (Cr k,numK k,Dx k,Dv k,Bw k) = (false,false,true,false,false) \/
   (Cr k,numK k,Dx k,Dv k,Bw k) = (false,false,false,true,false) \/ (Cr k,numK k,Dx k,Dv k,Bw k) = (false,false,false,false,true) \/ (Cr k,numK k,Dx k,Dv k,Bw k) = (false,false,false,false,false):=by
 simp only [Prod.mk.injEq,Cr,numK,Dx,Dv,Bw,decide_eq_true_eq,decide_eq_false_iff_not]
 omega
def Dt (s : ByteArray) : Bool:=s.toList.isEmpty
def Bs (t n r f l : Bool) (v : V) : Bool:=(t || Dt v.text) && (n || decide (v.int = 0)) && (r || decide (Do v.real = 0)) && (f || !v.flag) && (l || decide (v.list.length = 0))
def B6 (v : V) : Bool:=Bs (Cr v.kind) (numK v.kind) (Dx v.kind) (Dv v.kind) (Bw v.kind) v
end Go.Proofs.YtagkgfniihiinaaGreatDoor
namespace Go.Proofs.YtagkgfniihiinaaGreatDoor
open Go.RowKit Go.Shelf Go.Lib
abbrev Dq : List UInt8:=[48,49,50,51,52,53,54,55,56,57]
def bigB (s : ByteArray) : Bool:=!(Lib.trimPrefix s.data.toList [45]).isEmpty && (Lib.trimS (Lib.trimPrefix s.data.toList [45]) Dq).isEmpty
def Fh (s : ByteArray) : Bool:=if h : 3 < s.size then s[3]'h == 58 else false
def Eb (k : Int) (t : ByteArray) (n : Nat) : Bool:=
 if k = 1 \/ k = 2 then !crlfB t else if k = 9 then bigB t else if k = 11 then Fh t else if k = 12 then decide (n % 2 = 0) else if k = 14 then decide (0 < n) else true
end Go.Proofs.YtagkgfniihiinaaGreatDoor
namespace Go.Proofs.YtagkgfniihiinaaGreatDoor
mutual
def V.ranged : V -> Prop
 | .mk _ _ i r _ l => -9223372036854775808 <= i /\ i <= 9223372036854775807 /\ r < 18446744073709551616 /\ V.rangedL l
def V.rangedL : List V -> Prop
 | [] => True
 | x :: l => V.ranged x /\ V.rangedL l
end
theorem V.ranged_eq (v : V) : v.ranged ↔ -9223372036854775808 <= v.int /\ v.int <= 9223372036854775807 /\ v.real < 18446744073709551616 /\ V.rangedL v.list:=by cases v; simp only [V.ranged,V.int,V.real,V.list]
theorem V.rangedL_mem {l : List V} (h : V.rangedL l) : ∀ x ∈ l,x.ranged:=by
 induction l with
 | nil => intro x hx; cases hx
 | cons y l ih =>
   intro x hx;rcases List.mem_cons.1 hx with rfl | hx
   · exact h.1
   · exact ih h.2 x hx
theorem C2 {l : List V} (h : ∀ x ∈ l,x.ranged) : V.rangedL l:=by
 induction l with
 | nil => trivial
 | cons y l ih => exact ⟨h y (by simp),ih fun x hx => h x (by simp [hx])⟩
end Go.Proofs.YtagkgfniihiinaaGreatDoor
namespace Go.Proofs.YtagkgfniihiinaaGreatDoor
open Go.RowKit
def okV (v : V) : Bool:=C1 v.kind && B6 v && Eb v.kind v.text v.list.length && decide (v.text.size <= 4096)
mutual
def V.fine : V -> Int -> Bool
 | .mk k t i r f l,d => okV (.mk k t i r f l) && (!Bw k || decide (1 <= d)) && V.fineL l (d - 1)
def V.fineL : List V -> Int -> Bool
 | [],_ => true
 | x :: l,d => decide (x.kind ≠ 14) && V.fine x d && V.fineL l d
end
mutual
def V.sized : V -> Prop
 | .mk _ t _ _ _ l => t.size <= 9223372036854775807 /\ V.sizedL l
def V.sizedL : List V -> Prop
 | [] => True
 | x :: l => V.sized x /\ V.sizedL l
end
theorem V.fine_eq (v : V) (d : Int) : v.fine d = (okV v && (!Bw v.kind || decide (1 <= d)) && V.fineL v.list (d - 1)):=by cases v; simp only [V.fine,V.kind,V.list]
theorem V.sized_eq (v : V) : v.sized ↔ v.text.size <= 9223372036854775807 /\ V.sizedL v.list:=by cases v; simp only [V.sized,V.text,V.list]
theorem V.sizedL_mem {l : List V} (h : V.sizedL l) : ∀ x ∈ l,x.sized:=by
 induction l with
 | nil => intro x hx; cases hx
 | cons y l ih =>
   intro x hx;rcases List.mem_cons.1 hx with rfl | hx
   · exact h.1
   · exact ih h.2 x hx
theorem V.fineL_take {l : List V} {d : Int} (h : V.fineL l d = true) (j : Nat) : V.fineL (l.take j) d = true:=by
 induction l generalizing j with
 | nil => simp [V.fineL]
 | cons y l ih =>
   simp only [V.fineL,Bool.and_eq_true] at h;cases j with
   | zero => simp [V.fineL]
   | succ j => simp only [List.take_succ_cons,V.fineL,Bool.and_eq_true]; exact ⟨h.1,ih h.2 j⟩
theorem V.countL_take (l : List V) (j : Nat) : V.countL (l.take j) <= V.countL l:=by
 induction l generalizing j with
 | nil => simp
 | cons y l ih =>
   cases j with
   | zero => simp [V.countL]
   | succ j => simp only [List.take_succ_cons,V.countL]; have:=ih j; omega
theorem V.count_eq (v : V) : v.count = V.countL v.list + 1:=by cases v; simp only [V.count,V.list]
def checkZ (v : V) : Int:=if v.fine 8 = true /\ v.count <= 1000 then 0 else 31
mutual
def V.dep : V -> Int
 | .mk k _ _ _ _ l => if Bw k = true then V.depL l + 1 else 0
def V.depL : List V -> Int
 | [] => 0
 | x :: l => max (V.dep x) (V.depL l)
end
theorem V.dep_eq (v : V) : v.dep = if Bw v.kind = true then V.depL v.list + 1 else 0:=by cases v; rw [V.dep]; rfl
theorem V.depL_snoc (l : List V) (x : V) : V.depL (l ++ [x]) = max (V.depL l) x.dep:=by
 induction l with
 | nil =>
   simp only [List.nil_append,V.depL];omega
 | cons y l ih => simp only [List.cons_append,V.depL,ih]; omega
theorem V.depL_nonneg (l : List V) : 0 <= V.depL l:=by
 induction l with
 | nil => simp [V.depL]
 | cons y l ih => simp only [V.depL]; omega
theorem V.dep_count (v : V) : 0 <= v.dep /\ v.dep <= v.count:=by
 induction v using V.ind with
 | h v ih =>
 have hl : V.depL v.list <= V.countL v.list:=by
   have key : ∀ l : List V,(∀ x ∈ l,0 <= x.dep /\ x.dep <= x.count) -> V.depL l <= V.countL l:=by
     intro l;induction l with
     | nil => intro _; simp [V.depL,V.countL]
     | cons y l ih =>
       intro h;have h1:=h y (by simp);have h2:=ih (fun x hx => h x (by simp [hx]));simp only [V.depL,V.countL];omega
   exact key _ ih
 have h0:=V.depL_nonneg v.list;rw [V.dep_eq,V.count_eq];split <;> omega
end Go.Proofs.YtagkgfniihiinaaGreatDoor
namespace Go.Proofs.YtagkgfniihiinaaGreatDoor
open Go.RowKit Go.Lib
def digB (x : UInt8) : Bool:=decide (48 <= x.toNat /\ x.toNat <= 57)
theorem dig_contains (x : UInt8) : Dq.contains x = digB x:=by
 have : ∀ n : Nat,n < 256 -> Dq.contains (UInt8.ofNat n) = digB (UInt8.ofNat n):=by decide +kernel
 have h:=this x.toNat x.toNat_lt;simpa using h
theorem dw_all {α : Type} (p : α -> Bool) (l : List α) : (∀ x ∈ l.dropWhile p,p x = true) ↔ ∀ x ∈ l,p x = true:=by
 induction l with
 | nil => simp
 | cons y l ih =>
   by_cases h : p y = true
   · rw [List.dropWhile_cons_of_pos h,ih]
     simp [h]
   · rw [List.dropWhile_cons_of_neg h]
theorem dw_nil {α : Type} (p : α -> Bool) (l : List α) : l.dropWhile p = [] ↔ ∀ x ∈ l,p x = true:=by
 induction l with
 | nil => simp
 | cons y l ih =>
   by_cases h : p y = true
   · rw [List.dropWhile_cons_of_pos h,ih]
     simp [h]
   · rw [List.dropWhile_cons_of_neg h]
     simp [h]
theorem trimS_nil (l : List UInt8) : (Lib.trimS l Dq).isEmpty = l.all digB:=by
 rw [Bool.eq_iff_iff,List.isEmpty_iff,List.all_eq_true];unfold Lib.trimS Lib.trimLeftS Lib.trimRightS;rw [dw_nil];constructor
 · intro h x hx
   have h2 : ∀ y ∈ l.reverse.dropWhile (Dq.contains ·),Dq.contains y = true:=fun y hy => h y (by simpa using hy)
   have h3:=(dw_all _ _).1 h2 x (by simpa using hx);rw [<- dig_contains]; exact h3
 · intro h x hx
   have h1 : x ∈ l:=by
     have:=(List.dropWhile_sublist (fun y => Dq.contains y) (l:=l.reverse)).subset (by simpa using hx);simpa using this
   show Dq.contains x = true;rw [dig_contains]; exact h x h1
def Fc (t : ByteArray) : Nat:=if t.data.toList.head? = some 45 then 1 else 0
theorem bigB_eq (t : ByteArray) : bigB t = (decide (Fc t ≠ t.size) && (t.data.toList.drop (Fc t)).all digB):=by
 have hp : Lib.trimPrefix t.data.toList [45] = t.data.toList.drop (Fc t):=by
   unfold Lib.trimPrefix Fc;cases h : t.data.toList with
   | nil => simp [Lib.hasPrefix]
   | cons y l =>
     by_cases hy : y = 45
     · subst hy; simp [Lib.hasPrefix]
     · simp [Lib.hasPrefix,hy]
       intro h'; exact absurd h'.symm hy
 unfold bigB;rw [hp,trimS_nil];congr 1;rw [Bool.eq_iff_iff];have hl : t.data.toList.length = t.size:=by simp
 have hle : Fc t <= t.size:=by
   unfold Fc;split
   · rename_i h
     cases hh : t.data.toList with
     | nil => rw [hh] at h; cases h
     | cons y l => rw [hh] at hl; simp at hl; omega
   · omega
 simp [List.drop_eq_nil_iff];omega
end Go.Proofs.YtagkgfniihiinaaGreatDoor
namespace Go.Proofs.YtagkgfniihiinaaGreatDoor
open Go.RowKit
theorem Cn (k : Int) (w : World) : Calls Tryz.prog 54 #[.int .i64 k] w fun e w' => e = .returned (.bool (Bw k)) /\ w' = w:=by
 by_cases h5 : k = 5
 · subst h5
   go_enter Tryz.func54,Tryz.ntmps54
   go_wp2;go_ret;exact ⟨rfl,rfl⟩
 · have h5b : (k == 5) = false:=by simpa using h5
   replace h5:=Hd h5;by_cases h12 : 12 <= k
   · by_cases h14 : k <= 14
     · rw [show Bw k = true by simp [Bw]; omega]
       go_enter Tryz.func54,Tryz.ntmps54
       go_wp2;go_ret;exact ⟨rfl,rfl⟩
     · rw [show Bw k = false by have:=h5.out; simp [Bw]; omega]
       go_enter Tryz.func54,Tryz.ntmps54
       go_wp2;go_ret;exact ⟨rfl,rfl⟩
   · rw [show Bw k = false by have:=h5.out; simp [Bw]; omega]
     go_enter Tryz.func54,Tryz.ntmps54
     go_wp2;go_ret;exact ⟨rfl,rfl⟩
theorem Dg (k : Int) (w : World) : Calls Tryz.prog 83 #[.int .i64 k] w fun e w' => e = .returned (.bool (Cr k)) /\ w' = w:=by
 rcases (by omega : k = 1 \/ k = 2 \/ k = 4 \/ (k ≠ 1 /\ k ≠ 2 /\ k ≠ 4)) with rfl | rfl | rfl | ⟨h1,h2,h4⟩
 · go_enter Tryz.func83,Tryz.ntmps83
   go_wp2;go_ret;exact ⟨rfl,rfl⟩
 · go_enter Tryz.func83,Tryz.ntmps83
   go_wp2;go_ret;exact ⟨rfl,rfl⟩
 · go_enter Tryz.func83,Tryz.ntmps83
   go_wp2;go_ret;exact ⟨rfl,rfl⟩
 · have h1b : (k == 1) = false:=by simpa using h1
   have h2b : (k == 2) = false:=by simpa using h2
   have h4b : (k == 4) = false:=by simpa using h4
   replace h1:=Hd h1;replace h2:=Hd h2;replace h4:=Hd h4;by_cases h9 : 9 <= k
   · by_cases h11 : k <= 11
     · rw [show Cr k = true by simp [Cr]; omega]
       go_enter Tryz.func83,Tryz.ntmps83
       go_wp2;go_ret;exact ⟨rfl,rfl⟩
     · rw [show Cr k = false by have:=h1.out; have:=h2.out; have:=h4.out; simp [Cr]; omega]
       go_enter Tryz.func83,Tryz.ntmps83
       go_wp2;go_ret;exact ⟨rfl,rfl⟩
   · rw [show Cr k = false by have:=h1.out; have:=h2.out; have:=h4.out; simp [Cr]; omega]
     go_enter Tryz.func83,Tryz.ntmps83
     go_wp2;go_ret;exact ⟨rfl,rfl⟩
set_option maxRecDepth 100000 in
set_option maxHeartbeats 3200000 in
theorem rcount_any (v : V) : ∀ (a : Option Addr) (cap : Nat) (w : World),RV w.cell? (Ae v.kind v.text v.int v.real v.flag a v.list.length cap) v -> v.count <= 100000 ->
   Calls Tryz.prog 38 #[.agg #[.int .i64 v.kind,.string v.text,.int .i64 v.int,.float .f64 v.real,.bool v.flag,.slice a v.list.length cap]] w fun e w' => e = .returned (.int .i64 v.count) /\ Below w.heap.size w w':=by
 induction v using V.ind with
 | h v ih =>
 intro a cap w hv hcnt
 replace ih:=Hd ih
 replace hv:=Hd hv
 have hn5 : v.list.length <= 100000:=by have:=V.length_le v.list; have:=v.count_list_lt; omega
 have hal0:=(Below.refl w.heap.size w).alloc (Nat.le_refl _) (.cells #[.int .i64 v.kind,.string v.text,.int .i64 v.int,.float .f64 v.real,.bool v.flag,.slice a v.list.length cap] 26)
 replace hal0:=Hd hal0
 go_enter Tryz.func38,Tryz.ntmps38
 go_wp2_with fail
 go_loopw [3,9] (fun s3 s9 wr => ∃ j : Nat,j <= v.list.length /\ s9 = .int .i64 j /\ s3 = .int .i64 ((V.countL (v.list.take j) + 1 : Nat) : Int) /\ Below w.heap.size w wr) (fun _ s9 _ => v.list.length - (intOf s9).toNat)
 case atStart => exact ⟨0,Nat.zero_le _,rfl,rfl,hal0.out⟩
 case round =>
   obtain ⟨j,hj,rfl,rfl,hbel⟩:=hrel;clear hal0;by_cases hlt : j < v.list.length
   · obtain ⟨x,b,o,a',cap',hxj,hmem,rfl,hx,d0,d1,d2,d3,d4,d5⟩:=hv.out.elem' hlt
     have hbw:=World.block_lt_of_cell? _ _ d0;have up : ∀ (q : Nat) u,w.cell? ⟨b,q,none⟩ = some u -> wr.cell? ⟨b,q,none⟩ = some u:=fun q u h => by rw [hbel.cell (by exact hbw)]; exact h
     replace d0:=up _ _ d0;replace d1:=up _ _ d1;replace d2:=up _ _ d2;replace d3:=up _ _ d3;replace d4:=up _ _ d4;replace d5:=up _ _ d5;have hx':=hx.mono (Aa (hbel.trans ((Below.refl wr.heap.size wr).alloc (Nat.le_refl _) (.cells #[.int .i64 x.kind,.string x.text,.int .i64 x.int,.float .f64 x.real,.bool x.flag,.slice a' x.list.length cap'] 26) |>.mono hbel.size)));have hxc : x.count <= 100000:=by have:=V.count_mem hmem; have:=v.count_list_lt; omega
     have hts : v.list.take (j + 1) = v.list.take j ++ [x]:=by
       obtain ⟨h1,h2⟩:=List.getElem?_eq_some_iff.1 hxj;rw [List.take_succ_eq_append_getElem h1,h2]
     have hal : Below w.heap.size w (wr.alloc (.cells #[.int .i64 x.kind,.string x.text,.int .i64 x.int,.float .f64 x.real,.bool x.flag,.slice a' x.list.length cap'] 26)):=hbel.alloc hbel.size _;replace hx':=Hd hx';replace hxj:=Hd hxj;replace hmem:=Hd hmem;replace hts:=Hd hts;replace hal:=Hd hal;clear up hx;have hcj:=V.countL_take v.list j;have hcv:=v.count_list_lt;obtain ⟨m,hm⟩ : ∃ m,m = V.countL (v.list.take j):=⟨_,rfl⟩;rw [<- hm] at hcj ⊢;replace hm:=Hd hm;go_wp2_with fail
     refine (ih.out x hmem.out a' cap' _ hx'.out hxc).mono ?_;rintro e w4 ⟨rfl,hb4⟩;have hbel4 : Below w.heap.size w w4:=hal.out.trans (hb4.mono hal.out.size);clear hb4 hbel d0 d1 d2 d3 d4 d5;go_wp2
     go_roundw
     case rel => exact ⟨j + 1,by omega,by go_num,by rw [hts.out,V.countL_append]; simp only [V.countL,Nat.add_zero]; rw [<- hm.out]; congr 1; omega,hbel4⟩
     case measure => simp [intOf]; omega
   · have hjn : j = v.list.length:=by omega
     subst hjn;rw [List.take_length];go_wp2;go_ret;exact ⟨by rw [V.count_eq]; rfl,hbel⟩
set_option maxRecDepth 100000 in
set_option maxHeartbeats 3200000 in
theorem rdepth_any (v : V) : ∀ (a : Option Addr) (cap : Nat) (w : World),RV w.cell? (Ae v.kind v.text v.int v.real v.flag a v.list.length cap) v -> v.count <= 100000 ->
   Calls Tryz.prog 37 #[.agg #[.int .i64 v.kind,.string v.text,.int .i64 v.int,.float .f64 v.real,.bool v.flag,.slice a v.list.length cap]] w fun e w' => e = .returned (.int .i64 v.dep) /\ Below w.heap.size w w':=by
 induction v using V.ind with
 | h v ih =>
 intro a cap w hv hcnt
 replace ih:=Hd ih
 replace hv:=Hd hv
 have hn5 : v.list.length <= 100000:=by have:=V.length_le v.list; have:=v.count_list_lt; omega
 have hal0:=(Below.refl w.heap.size w).alloc (Nat.le_refl _) (.cells #[.int .i64 v.kind,.string v.text,.int .i64 v.int,.float .f64 v.real,.bool v.flag,.slice a v.list.length cap] 26)
 replace hal0:=Hd hal0
 cases hlk : Bw v.kind with
 | false =>
   have hz : v.dep = 0:=by rw [V.dep_eq,hlk]; rfl
   replace hz:=Hd hz;replace hlk:=Hd hlk
   go_enter Tryz.func37,Tryz.ntmps37
   go_wp2_with fail
   refine (Cn v.kind _).mono ?_;rintro e w1 ⟨rfl,hw1⟩;rw [hw1,hlk.out];go_wp2;go_ret;exact ⟨by rw [hz.out]; rfl,hal0.out⟩
 | true =>
   have hz : v.dep = V.depL v.list + 1:=by rw [V.dep_eq,hlk]; rfl
   replace hz:=Hd hz;replace hlk:=Hd hlk
   go_enter Tryz.func37,Tryz.ntmps37
   go_wp2_with fail
   refine (Cn v.kind _).mono ?_;rintro e w1 ⟨rfl,hw1⟩;rw [hw1,hlk.out];go_wp2_with fail
   go_loopw [3,6,14] (fun s3 _ s20 wr => ∃ j : Nat,j <= v.list.length /\ s20 = .int .i64 j /\ s3 = .int .i64 (V.depL (v.list.take j) + 1) /\ Below w.heap.size w wr) (fun _ _ s20 _ => v.list.length - (intOf s20).toNat)
   case atStart => exact ⟨0,Nat.zero_le _,rfl,rfl,hal0.out⟩
   case round =>
     obtain ⟨j,hj,rfl,rfl,hbel⟩:=hrel;clear hal0 hw1;by_cases hlt : j < v.list.length
     · obtain ⟨x,b,o,a',cap',hxj,hmem,rfl,hx,d0,d1,d2,d3,d4,d5⟩:=hv.out.elem' hlt
       have hbw:=World.block_lt_of_cell? _ _ d0;have up : ∀ (q : Nat) u,w.cell? ⟨b,q,none⟩ = some u -> wr.cell? ⟨b,q,none⟩ = some u:=fun q u h => by rw [hbel.cell (by exact hbw)]; exact h
       replace d0:=up _ _ d0;replace d1:=up _ _ d1;replace d2:=up _ _ d2;replace d3:=up _ _ d3;replace d4:=up _ _ d4;replace d5:=up _ _ d5;have hx':=hx.mono (Aa (hbel.trans ((Below.refl wr.heap.size wr).alloc (Nat.le_refl _) (.cells #[.int .i64 x.kind,.string x.text,.int .i64 x.int,.float .f64 x.real,.bool x.flag,.slice a' x.list.length cap'] 26) |>.mono hbel.size)));have hxc : x.count <= 100000:=by have:=V.count_mem hmem; have:=v.count_list_lt; omega
       have hts : v.list.take (j + 1) = v.list.take j ++ [x]:=by
         obtain ⟨h1,h2⟩:=List.getElem?_eq_some_iff.1 hxj;rw [List.take_succ_eq_append_getElem h1,h2]
       have hal : Below w.heap.size w (wr.alloc (.cells #[.int .i64 x.kind,.string x.text,.int .i64 x.int,.float .f64 x.real,.bool x.flag,.slice a' x.list.length cap'] 26)):=hbel.alloc hbel.size _;replace hx':=Hd hx';replace hxj:=Hd hxj;replace hmem:=Hd hmem;replace hts:=Hd hts;replace hal:=Hd hal;clear up hx;have hxd:=x.dep_count;obtain ⟨m,hm⟩ : ∃ m,m = V.depL (v.list.take j):=⟨_,rfl⟩;rw [<- hm];replace hm:=Hd hm;go_wp2_with fail
       refine (ih.out x hmem.out a' cap' _ hx'.out hxc).mono ?_;rintro e w4 ⟨rfl,hb4⟩;have hbel4 : Below w.heap.size w w4:=hal.out.trans (hb4.mono hal.out.size);clear hb4 hbel d0 d1 d2 d3 d4 d5;by_cases hmx : m < x.dep
       all_goals
         go_wp2
         go_roundw
         case rel => exact ⟨j + 1,by omega,by go_num,by rw [hts.out,V.depL_snoc,<- hm.out] <;> exact congrArg (Value.int .i64) (by omega),hbel4⟩
         case measure => simp [intOf]; omega
     · have hjn : j = v.list.length:=by omega
       subst hjn;rw [List.take_length];go_wp2;go_ret;exact ⟨by rw [hz.out]; rfl,hbel⟩
theorem Ec {l : List UInt8} {A i : Nat} {x : UInt8} (hA : A <= i) (hx : l[i]? = some x) (h : digB x = false) : (l.drop A).all digB = false:=by
 rw [List.all_eq_false];refine ⟨x,?_,by simp [h]⟩;have : (l.drop A)[i - A]? = some x:=by rw [List.getElem?_drop,show A + (i - A) = i by omega]; exact hx
 exact List.mem_of_getElem? this
theorem F7 {l : List UInt8} {A i : Nat} {x : UInt8} (hA : A <= i) (hx : l[i]? = some x) (h : ((l.take i).drop A).all digB = true) (hd : digB x = true) : ((l.take (i + 1)).drop A).all digB = true:=by
 obtain ⟨hi,he⟩:=List.getElem?_eq_some_iff.1 hx;rw [List.take_succ_eq_append_getElem hi,he,List.drop_append_of_le_length (by rw [List.length_take]; omega),List.all_append,h];simp [hd]
theorem okV_eq {v : V} (h : (C1 v.kind && B6 v) = true) : okV v = (Eb v.kind v.text v.list.length && decide (v.text.size <= 4096)):=by
 unfold okV; rw [h,Bool.true_and]
theorem crlf_hit {t : ByteArray} {i : Nat} {x : UInt8} (h : Lib.NoAny t.data.toList [13,10] i) (hx : t.data.toList[i]? = some x) (hc : x = 13 \/ x = 10) : crlfB t = true:=by
 unfold crlfB Lib.containsAny;rw [Lib.indexAny_hit h hx (by rcases hc with rfl | rfl <;> decide)]
 simp
theorem crlf_none {t : ByteArray} (h : Lib.NoAny t.data.toList [13,10] t.size) : crlfB t = false:=by
 unfold crlfB Lib.containsAny;rw [Lib.indexAny_none (by rw [<- Lib.size_eq]; exact h)];decide
theorem colon_slice (t : ByteArray) : (decide (4 <= t.size) && ((t.extract 3 4).toList == [58])) = Fh t:=by
 unfold Fh;by_cases h : 3 < t.size
 · rw [dif_pos h]
   have e : (t.extract 3 4).toList = [t[3]'h]:=by
     rw [Lib.toList_data,ByteArray.data_extract,Array.toList_extract];have hl : 3 < t.data.toList.length:=by simpa using h
     rw [List.extract_eq_take_drop,List.drop_eq_getElem_cons hl];rfl
   rw [e,decide_eq_true (by omega)];rw [Bool.eq_iff_iff]; simp
 · rw [dif_neg h,decide_eq_false (by omega)]
   rfl
set_option maxRecDepth 100000 in
set_option maxHeartbeats 12800000 in
theorem own_any (v : V) (a : Option Addr) (cap : Nat) (w : World) (hs : v.text.size <= 9223372036854775807) (hn : v.list.length <= 100000) :
   Calls Tryz.prog 53 #[.agg #[.int .i64 v.kind,.string v.text,.int .i64 v.int,.float .f64 v.real,.bool v.flag,.slice a v.list.length cap]] w fun e w' => e = .returned (.bool (okV v)) /\ Below w.heap.size w w':=by
 obtain ⟨W1,hW1⟩ : ∃ W1,W1 = w.alloc (.cells #[.int .i64 v.kind,.string v.text,.int .i64 v.int,.float .f64 v.real,.bool v.flag,.slice a v.list.length cap] 26):=⟨_,rfl⟩
 have hb0 : Below w.heap.size w W1:=by rw [hW1]; exact (Below.refl _ _).alloc (Nat.le_refl _) _
 have g0 : W1.cell? ⟨w.heap.size,0,none⟩ = some (.int .i64 v.kind):=by rw [hW1,World.cell?_alloc_new]; rfl
 have g1 : W1.cell? ⟨w.heap.size,1,none⟩ = some (.string v.text):=by rw [hW1,World.cell?_alloc_new]; rfl
 have g2 : W1.cell? ⟨w.heap.size,2,none⟩ = some (.int .i64 v.int):=by rw [hW1,World.cell?_alloc_new]; rfl
 have g3 : W1.cell? ⟨w.heap.size,3,none⟩ = some (.float .f64 v.real):=by rw [hW1,World.cell?_alloc_new]; rfl
 have g4 : W1.cell? ⟨w.heap.size,4,none⟩ = some (.bool v.flag):=by rw [hW1,World.cell?_alloc_new]; rfl
 have g5 : W1.cell? ⟨w.heap.size,5,none⟩ = some (.slice a v.list.length cap):=by rw [hW1,World.cell?_alloc_new]; rfl
 have hbt:=fun (W : World) => Cl v.real W
 replace hW1:=Hd hW1
 replace hb0:=Hd hb0
 replace hbt:=Hd hbt
 generalize hnl : v.list.length = n at *
 replace hnl:=Hd hnl
 go_enter Tryz.func53,Tryz.ntmps53
 go_upto_region 1 with fail
 rw [<- hW1.out]
 generalize (Value.agg #[.int .i64 v.kind,.string v.text,.int .i64 v.int,.float .f64 v.real,.bool v.flag,.slice a n cap]) = V0
 go_cut [65] (fun s65 wx => s65 = .bool (!(C1 v.kind && B6 v)) /\ wx = W1)
 case first =>
   by_cases h1 : v.kind < 1
   · have hk : C1 v.kind = false:=by simp [C1]; omega
     replace hk:=Hd hk;go_wp2
     go_meet
     exact ⟨by rw [hk.out]; rfl,rfl⟩
   by_cases h14 : 14 < v.kind
   · have hk : C1 v.kind = false:=by simp [C1]; omega
     replace hk:=Hd hk;go_wp2
     go_meet
     exact ⟨by rw [hk.out]; rfl,rfl⟩
   have hk : C1 v.kind = true:=by simp [C1]; omega
   replace hk:=Hd hk;rcases classK v.kind with h | h | h | h | h | h;all_goals
     simp only [Prod.mk.injEq] at h
     obtain ⟨q1,q2,q3,q4,q5⟩:=h
     have hnv : B6 v = Bs (Cr v.kind) (numK v.kind) (Dx v.kind) (Dv v.kind) (Bw v.kind) v:=rfl
     rw [q1,q2,q3,q4,q5] at hnv
     replace hnv:=Hd hnv
   · have e3 : (v.kind != 3) = true:=by simp [numK] at q2; simpa using q2
     have e7 : (v.kind != 7) = true:=by simp [Dx] at q3; simpa using q3
     have e8 : (v.kind != 8) = true:=by simp [Dv] at q4; simpa using q4
     go_wp2_with (first
       | (go_at_call 83; refine (Dg v.kind _).mono ?_; rintro e w' ⟨rfl,hw⟩; rw [hw])
       | (go_at_call 39; refine (hbt.out _).mono ?_; rintro e w' ⟨rfl,hw⟩; rw [hw])
       | (go_at_call 54; refine (Cn v.kind _).mono ?_; rintro e w' ⟨rfl,hw⟩; rw [hw]))
     all_goals
       go_meet
       refine ⟨congrArg Value.bool ?_,rfl⟩
       rw [hk.out,hnv.out]
       simp [Bs,Dt,hnl.out, *]
       try (by_cases hz : n = 0 <;> simp [hz] <;> omega)
   · have e3 : (v.kind != 3) = false:=by simp [numK] at q2; simpa using q2
     have e7 : (v.kind != 7) = true:=by simp [Dx] at q3; simpa using q3
     have e8 : (v.kind != 8) = true:=by simp [Dv] at q4; simpa using q4
     go_wp2_with (first
       | (go_at_call 83; refine (Dg v.kind _).mono ?_; rintro e w' ⟨rfl,hw⟩; rw [hw])
       | (go_at_call 39; refine (hbt.out _).mono ?_; rintro e w' ⟨rfl,hw⟩; rw [hw])
       | (go_at_call 54; refine (Cn v.kind _).mono ?_; rintro e w' ⟨rfl,hw⟩; rw [hw]))
     all_goals
       go_meet
       refine ⟨congrArg Value.bool ?_,rfl⟩
       rw [hk.out,hnv.out]
       simp [Bs,Dt,hnl.out, *]
       try (by_cases hz : n = 0 <;> simp [hz] <;> omega)
   · have e3 : (v.kind != 3) = true:=by simp [numK] at q2; simpa using q2
     have e7 : (v.kind != 7) = false:=by simp [Dx] at q3; simpa using q3
     have e8 : (v.kind != 8) = true:=by simp [Dv] at q4; simpa using q4
     go_wp2_with (first
       | (go_at_call 83; refine (Dg v.kind _).mono ?_; rintro e w' ⟨rfl,hw⟩; rw [hw])
       | (go_at_call 39; refine (hbt.out _).mono ?_; rintro e w' ⟨rfl,hw⟩; rw [hw])
       | (go_at_call 54; refine (Cn v.kind _).mono ?_; rintro e w' ⟨rfl,hw⟩; rw [hw]))
     all_goals
       go_meet
       refine ⟨congrArg Value.bool ?_,rfl⟩
       rw [hk.out,hnv.out]
       simp [Bs,Dt,hnl.out, *]
       try (by_cases hz : n = 0 <;> simp [hz] <;> omega)
   · have e3 : (v.kind != 3) = true:=by simp [numK] at q2; simpa using q2
     have e7 : (v.kind != 7) = true:=by simp [Dx] at q3; simpa using q3
     have e8 : (v.kind != 8) = false:=by simp [Dv] at q4; simpa using q4
     go_wp2_with (first
       | (go_at_call 83; refine (Dg v.kind _).mono ?_; rintro e w' ⟨rfl,hw⟩; rw [hw])
       | (go_at_call 39; refine (hbt.out _).mono ?_; rintro e w' ⟨rfl,hw⟩; rw [hw])
       | (go_at_call 54; refine (Cn v.kind _).mono ?_; rintro e w' ⟨rfl,hw⟩; rw [hw]))
     all_goals
       go_meet
       refine ⟨congrArg Value.bool ?_,rfl⟩
       rw [hk.out,hnv.out]
       simp [Bs,Dt,hnl.out, *]
       try (by_cases hz : n = 0 <;> simp [hz] <;> omega)
   · have e3 : (v.kind != 3) = true:=by simp [numK] at q2; simpa using q2
     have e7 : (v.kind != 7) = true:=by simp [Dx] at q3; simpa using q3
     have e8 : (v.kind != 8) = true:=by simp [Dv] at q4; simpa using q4
     go_wp2_with (first
       | (go_at_call 83; refine (Dg v.kind _).mono ?_; rintro e w' ⟨rfl,hw⟩; rw [hw])
       | (go_at_call 39; refine (hbt.out _).mono ?_; rintro e w' ⟨rfl,hw⟩; rw [hw])
       | (go_at_call 54; refine (Cn v.kind _).mono ?_; rintro e w' ⟨rfl,hw⟩; rw [hw]))
     all_goals
       go_meet
       refine ⟨congrArg Value.bool ?_,rfl⟩
       rw [hk.out,hnv.out]
       simp [Bs,Dt,hnl.out, *]
       try (by_cases hz : n = 0 <;> simp [hz] <;> omega)
   · have e3 : (v.kind != 3) = true:=by simp [numK] at q2; simpa using q2
     have e7 : (v.kind != 7) = true:=by simp [Dx] at q3; simpa using q3
     have e8 : (v.kind != 8) = true:=by simp [Dv] at q4; simpa using q4
     go_wp2_with (first
       | (go_at_call 83; refine (Dg v.kind _).mono ?_; rintro e w' ⟨rfl,hw⟩; rw [hw])
       | (go_at_call 39; refine (hbt.out _).mono ?_; rintro e w' ⟨rfl,hw⟩; rw [hw])
       | (go_at_call 54; refine (Cn v.kind _).mono ?_; rintro e w' ⟨rfl,hw⟩; rw [hw]))
     all_goals
       go_meet
       refine ⟨congrArg Value.bool ?_,rfl⟩
       rw [hk.out,hnv.out]
       simp [Bs,Dt,hnl.out, *]
       try (by_cases hz : n = 0 <;> simp [hz] <;> omega)
 case rest =>
   obtain ⟨rfl,rfl⟩:=hcut;cases hkn : (C1 v.kind && B6 v) with
   | false =>
     have hok : okV v = false:=by unfold okV; rw [hkn]; rfl
     replace hok:=Hd hok;replace hkn:=Hd hkn;clear g0 g1 g2 g3 g4 g5;go_wp2;go_ret;exact ⟨by rw [hok.out]; rfl,hb0.out⟩
   | true =>
   have hok:=okV_eq hkn;have hlist : Bw v.kind = true -> v.text.size = 0:=fun h => by
     simp only [Bool.and_eq_true,B6,Bs,Bool.or_eq_true] at hkn;rcases hkn.2.1.1.1.1 with h1 | h1
     · simp only [Cr,Bw,decide_eq_true_eq] at h1 h; omega
     · simp only [Dt,List.isEmpty_iff] at h1
       rw [Lib.toList_data] at h1;have:=congrArg List.length h1;simpa using this
   rw [hnl.out] at hok;replace hok:=Hd hok;replace hkn:=Hd hkn;replace hlist:=Hd hlist;obtain ⟨t,ht⟩ : ∃ t,t = v.text:=⟨_,rfl⟩;rw [<- ht] at g1 hok hlist hs;replace ht:=Hd ht;obtain ⟨k,hkk⟩ : ∃ k,k = v.kind:=⟨_,rfl⟩;rw [<- hkk] at g0 hok hlist;replace hkk:=Hd hkk;clear g2 g3 g4;rcases (by omega : (k = 1 \/ k = 2) \/ k = 9 \/ k = 11 \/ k = 12 \/ k = 14 \/ (k ≠ 1 /\ k ≠ 2 /\ k ≠ 9 /\ k ≠ 11 /\ k ≠ 12 /\ k ≠ 14)) with hk | rfl | rfl | rfl | rfl | h
   · have hok2 : okV v = (!crlfB t && decide (t.size <= 4096)):=by rw [hok.out,Eb,if_pos hk]
     replace hok2:=Hd hok2;clear hok hlist;rcases hk with rfl | rfl;all_goals
       go_wp2_with fail
       go_loop [3] (fun s3 => ∃ i : Nat,i <= t.size /\ s3 = .int .i64 i /\ Lib.NoAny t.data.toList [13,10] i) (fun s3 => t.size - (intOf s3).toNat)
       case atStart => exact ⟨0,Nat.zero_le _,rfl,Lib.NoAny.zero _ _⟩
       case round =>
         obtain ⟨i,hi,rfl,hno⟩:=hrel;replace hno:=Hd hno;by_cases hlt : i < t.size
         · obtain ⟨x,hx⟩ : ∃ x : UInt8,t[i]'hlt = x:=⟨_,rfl⟩
           have hxl : t.data.toList[i]? = some x:=by rw [<- hx]; exact Lib.data_getElem? t i hlt
           replace hxl:=Hd hxl;by_cases h10 : x = 10
           · have e : ((x.toNat : Int) == 10) = true:=by subst h10; rfl
             have hc:=crlf_hit hno.out hxl.out (Or.inr h10);replace hc:=Hd hc;replace h10:=Hd h10;go_wp2;go_ret;exact ⟨by rw [hok2.out,hc.out]; rfl,hb0.out⟩
           · have e : ((x.toNat : Int) == 10) = false:=by
               have : x.toNat ≠ 10:=fun h => h10 (UInt8.toNat_inj.1 (by simpa using h));simp; omega
             by_cases h13 : x = 13
             · have e2 : ((x.toNat : Int) == 13) = true:=by subst h13; rfl
               have hc:=crlf_hit hno.out hxl.out (Or.inl h13);replace hc:=Hd hc;replace h13:=Hd h13;replace h10:=Hd h10;go_wp2;go_ret;exact ⟨by rw [hok2.out,hc.out]; rfl,hb0.out⟩
             · have e2 : ((x.toNat : Int) == 13) = false:=by
                 have : x.toNat ≠ 13:=fun h => h13 (UInt8.toNat_inj.1 (by simpa using h));simp; omega
               have hns:=hno.out.succ hxl.out (by simp [h10,h13]);replace hns:=Hd hns;replace h10:=Hd h10;replace h13:=Hd h13;go_wp2
               go_round
               case rel => exact ⟨i + 1,by omega,by go_num,hns.out⟩
               case measure => simp [intOf]; omega
         · obtain rfl : i = t.size:=by omega
           have hc:=crlf_none hno.out;replace hc:=Hd hc;go_wp2;go_ret;exact ⟨by rw [hok2.out,hc.out]; simp; omega,hb0.out⟩
   · have hfb : Eb 9 t n = bigB t:=by simp [Eb]
     have hokb:=hok.out;rw [hfb,bigB_eq] at hokb;clear hfb hok hlist;replace hokb:=Hd hokb;by_cases hz : t.size = 0
     · have hno : okV v = false:=by
         rw [hokb.out];have : Fc t = 0:=by
           unfold Fc;rw [if_neg];have : t.data.toList = []:=List.length_eq_zero_iff.1 (by simpa using hz);rw [this]; simp
         simp [this,hz]
       replace hno:=Hd hno;have t0 : ¬ (0 : Int) < (t.size : Int):=by omega
       have t1 : ((0 : Int) == (t.size : Int)) = true:=by simp; omega
       replace hz:=Hd hz;go_wp2;go_ret;exact ⟨by rw [hno.out]; rfl,hb0.out⟩
     · have hpos : 0 < t.size:=by omega
       obtain ⟨x0,hx0⟩ : ∃ x : UInt8,t[0]'hpos = x:=⟨_,rfl⟩;have hxl0 : t.data.toList.head? = some x0:=by
         rw [List.head?_eq_getElem?,<- hx0]; exact Lib.data_getElem? t 0 hpos
       have t0 : (0 : Int) < (t.size : Int):=by omega
       by_cases h45 : x0 = 45
       · have hA : Fc t = 1:=by unfold Fc; rw [hxl0,h45]; rfl
         rw [hA] at hokb;have e45 : ((x0.toNat : Int) == 45) = true:=by subst h45; rfl
         clear hA hxl0;replace h45:=Hd h45;by_cases h1s : t.size = 1
         · have hno : okV v = false:=by rw [hokb.out]; simp [h1s]
           replace hno:=Hd hno;have t1 : ((1 : Int) == (t.size : Int)) = true:=by simp; omega
           replace h1s:=Hd h1s;replace hz:=Hd hz;go_wp2;go_ret;exact ⟨by rw [hno.out]; rfl,hb0.out⟩
         · have hok2 : okV v = ((t.data.toList.drop 1).all digB && decide (t.size <= 4096)):=by rw [hokb.out,decide_eq_true (show 1 ≠ t.size by omega),Bool.true_and]
           have t1 : ((1 : Int) == (t.size : Int)) = false:=by simp; omega
           have h1s' : 1 <= t.size:=by omega
           replace hok2:=Hd hok2;replace hz:=Hd hz;replace h1s:=Hd h1s;go_wp2_with fail
           go_loop [4] (fun s4 => ∃ i : Nat,1 <= i /\ i <= t.size /\ s4 = .int .i64 i /\ ((t.data.toList.take i).drop 1).all digB = true) (fun s4 => t.size - (intOf s4).toNat)
           case atStart => exact ⟨1,Nat.le_refl _,by omega,rfl,by simp⟩
           case round =>
             obtain ⟨i,hai,hi,rfl,hall⟩:=hrel;replace hall:=Hd hall;have hlen : t.data.toList.length = t.size:=by simp
             replace hlen:=Hd hlen;by_cases hlt : i < t.size
             · obtain ⟨x,hx⟩ : ∃ x : UInt8,t[i]'hlt = x:=⟨_,rfl⟩
               have hxl : t.data.toList[i]? = some x:=by rw [<- hx]; exact Lib.data_getElem? t i hlt
               replace hxl:=Hd hxl;by_cases h48 : x.toNat < 48
               · have e : (x.toNat : Int) < 48:=by omega
                 have hno : okV v = false:=by
                   rw [hok2.out,Ec hai hxl.out (by simp [digB]; omega)]; simp
                 replace hno:=Hd hno;replace h48:=Hd h48;go_wp2;go_ret;exact ⟨by rw [hno.out]; rfl,hb0.out⟩
               · by_cases h57 : 57 < x.toNat
                 · have e : ¬ (x.toNat : Int) < 48:=by omega
                   have e2 : (57 : Int) < (x.toNat : Int):=by omega
                   have hno : okV v = false:=by
                     rw [hok2.out,Ec hai hxl.out (by simp [digB]; omega)]; simp
                   replace hno:=Hd hno;replace h48:=Hd h48;replace h57:=Hd h57;go_wp2;go_ret;exact ⟨by rw [hno.out]; rfl,hb0.out⟩
                 · have e : ¬ (x.toNat : Int) < 48:=by omega
                   have e2 : ¬ (57 : Int) < (x.toNat : Int):=by omega
                   have hst:=F7 hai hxl.out hall.out (by simp [digB]; omega);replace hst:=Hd hst;replace h48:=Hd h48;replace h57:=Hd h57;go_wp2
                   go_round
                   case rel => exact ⟨i + 1,by omega,by omega,by go_num,hst.out⟩
                   case measure => simp [intOf]; omega
             · obtain rfl : i = t.size:=by omega
               have hfin : okV v = decide (t.size <= 4096):=by
                 rw [hok2.out];have h1:=hall.out;rw [<- hlen.out,List.take_length] at h1;rw [h1];simp
               replace hfin:=Hd hfin;go_wp2;go_ret;exact ⟨by rw [hfin.out]; simp; omega,hb0.out⟩
       · have hA : Fc t = 0:=by unfold Fc; rw [hxl0,if_neg (by simpa using h45)]
         rw [hA] at hokb;have e45 : ((x0.toNat : Int) == 45) = false:=by
           have : x0.toNat ≠ 45:=fun h => h45 (UInt8.toNat_inj.1 (by simpa using h));simp; omega
         clear hA hxl0;replace h45:=Hd h45;have hok2 : okV v = ((t.data.toList.drop 0).all digB && decide (t.size <= 4096)):=by rw [hokb.out,decide_eq_true (show 0 ≠ t.size by omega),Bool.true_and]
         have t1 : ((0 : Int) == (t.size : Int)) = false:=by simp; omega
         replace hok2:=Hd hok2;replace hz:=Hd hz;go_wp2_with fail
         go_loop [4] (fun s4 => ∃ i : Nat,0 <= i /\ i <= t.size /\ s4 = .int .i64 i /\ ((t.data.toList.take i).drop 0).all digB = true) (fun s4 => t.size - (intOf s4).toNat)
         case atStart => exact ⟨0,Nat.le_refl _,by omega,rfl,by simp⟩
         case round =>
           obtain ⟨i,hai,hi,rfl,hall⟩:=hrel;replace hall:=Hd hall;have hlen : t.data.toList.length = t.size:=by simp
           replace hlen:=Hd hlen;by_cases hlt : i < t.size
           · obtain ⟨x,hx⟩ : ∃ x : UInt8,t[i]'hlt = x:=⟨_,rfl⟩
             have hxl : t.data.toList[i]? = some x:=by rw [<- hx]; exact Lib.data_getElem? t i hlt
             replace hxl:=Hd hxl;by_cases h48 : x.toNat < 48
             · have e : (x.toNat : Int) < 48:=by omega
               have hno : okV v = false:=by
                 rw [hok2.out,Ec hai hxl.out (by simp [digB]; omega)]; simp
               replace hno:=Hd hno;replace h48:=Hd h48;go_wp2;go_ret;exact ⟨by rw [hno.out]; rfl,hb0.out⟩
             · by_cases h57 : 57 < x.toNat
               · have e : ¬ (x.toNat : Int) < 48:=by omega
                 have e2 : (57 : Int) < (x.toNat : Int):=by omega
                 have hno : okV v = false:=by
                   rw [hok2.out,Ec hai hxl.out (by simp [digB]; omega)]; simp
                 replace hno:=Hd hno;replace h48:=Hd h48;replace h57:=Hd h57;go_wp2;go_ret;exact ⟨by rw [hno.out]; rfl,hb0.out⟩
               · have e : ¬ (x.toNat : Int) < 48:=by omega
                 have e2 : ¬ (57 : Int) < (x.toNat : Int):=by omega
                 have hst:=F7 hai hxl.out hall.out (by simp [digB]; omega);replace hst:=Hd hst;replace h48:=Hd h48;replace h57:=Hd h57;go_wp2
                 go_round
                 case rel => exact ⟨i + 1,by omega,by omega,by go_num,hst.out⟩
                 case measure => simp [intOf]; omega
           · obtain rfl : i = t.size:=by omega
             have hfin : okV v = decide (t.size <= 4096):=by
               rw [hok2.out];have h1:=hall.out;rw [<- hlen.out,List.take_length] at h1;rw [h1];simp
             replace hfin:=Hd hfin;go_wp2;go_ret;exact ⟨by rw [hfin.out]; simp; omega,hb0.out⟩
   · have hok2 : okV v = (Fh t && decide (t.size <= 4096)):=by rw [hok.out]; simp [Eb]
     replace hok2:=Hd hok2;clear hok hlist;have hcs:=colon_slice t;replace hcs:=Hd hcs;by_cases h4 : 4 <= t.size
     · have t0 : (4 : Int) <= (t.size : Int):=by omega
       by_cases hc : (t.extract 3 4).toList = [58]
       · have hcb : Fh t = true:=by rw [<- hcs.out,hc,decide_eq_true h4]; rfl
         replace hcb:=Hd hcb;have e1 : ((t.extract 3 4).toList == [58]) = true:=by rw [hc]; rfl
         replace hc:=Hd hc;go_wp2;go_ret;exact ⟨by rw [hok2.out,hcb.out]; simp; omega,hb0.out⟩
       · have e1 : ((t.extract 3 4).toList == [58]) = false:=by simpa using hc
         have hcb : Fh t = false:=by rw [<- hcs.out,e1]; simp
         replace hcb:=Hd hcb;replace hc:=Hd hc;go_wp2;go_ret;exact ⟨by rw [hok2.out,hcb.out]; rfl,hb0.out⟩
     · have t0 : ¬ (4 : Int) <= (t.size : Int):=by omega
       have hcb : Fh t = false:=by rw [<- hcs.out,decide_eq_false h4]; rfl
       replace hcb:=Hd hcb;go_wp2;go_ret;exact ⟨by rw [hok2.out,hcb.out]; rfl,hb0.out⟩
   · have hz:=hlist.out rfl
     have hok2 : okV v = decide (n % 2 = 0):=by rw [hok.out,hz]; simp [Eb]
     replace hok2:=Hd hok2;replace hz:=Hd hz;clear hok hlist;go_wp2;go_ret;refine ⟨?_,hb0.out⟩;have : (((n : Int) % 2) == 0) = decide (n % 2 = 0):=by
       rw [Bool.eq_iff_iff]; simp; omega
     rw [hok2.out];simp [<- this]
   · have hz:=hlist.out rfl
     have hok2 : okV v = decide (0 < n):=by rw [hok.out,hz]; simp [Eb]
     replace hok2:=Hd hok2;replace hz:=Hd hz;clear hok hlist;go_wp2;go_ret;exact ⟨by rw [hok2.out]; simp,hb0.out⟩
   · obtain ⟨q1,q2,q9,q11,q12,q14⟩:=h
     have hok2 : okV v = decide (t.size <= 4096):=by rw [hok.out]; simp [Eb,q1,q2,q9,q11,q12,q14]
     replace hok2:=Hd hok2;have h1 : (k == 1) = false:=by simpa using q1
     have h2 : (k == 2) = false:=by simpa using q2
     have h9 : (k == 9) = false:=by simpa using q9
     have h11 : (k == 11) = false:=by simpa using q11
     have h12 : (k == 12) = false:=by simpa using q12
     have h14 : (k == 14) = false:=by simpa using q14
     clear q1 q2 q9 q11 q12 q14 hok hlist;go_wp2;go_ret;exact ⟨by rw [hok2.out]; simp; omega,hb0.out⟩
end Go.Proofs.YtagkgfniihiinaaGreatDoor
