/- Values as bytes in the newer protocol: what is written, and that it tells values apart (plain). -/
import Derived.Test.YtagkgfniihiinaaGreatDoorJ45
import Derived.Test.YtagkgfniihiinaaGreatDoorJ51
import Derived.Lib.ItoaNum
import Derived.Lib.ItoaLen
import Derived.Test.YtagkgfniihiinaaGreatDoorRowN
import Derived.Test.YtagkgfniihiinaaGreatDoorVal
import Derived.Test.YtagkgfniihiinaaGreatDoorJ39
namespace Go.Proofs.YtagkgfniihiinaaGreatDoor
def Ck (k : Int) : UInt8:=([0,43,45,58,36,42,95,44,35,40,33,61,37,126,62] : List UInt8).getD k.toNat 0
def B8 (m : UInt8) (t : List UInt8) : List UInt8:=m :: (t ++ [13,10])
def numL (m : UInt8) (n : Int) : List UInt8:=B8 m (Lib.itoa n)
def longL (m : UInt8) (t : List UInt8) : List UInt8:=numL m t.length ++ (t ++ [13,10])
def Ed (k : Int) (n : Nat) : Nat:=if k = 12 then n / 2 else n
mutual
def V.wire : V -> List UInt8
 | .mk k t i r f l =>
   if k = 1 \/ k = 2 \/ k = 9 then B8 (Ck k) t.data.toList
   else if k = 3 then numL 58 i
   else if k = 7 then B8 44 (Bd r)
   else if k = 8 then B8 35 (if f then [116] else [102])
   else if k = 6 then B8 95 []
   else if k = 4 \/ k = 10 \/ k = 11 then longL (Ck k) t.data.toList
   else if k = 5 \/ k = 12 \/ k = 13 \/ k = 14 then numL (Ck k) (Ed k l.length) ++ V.wireL l
   else []
def V.wireL : List V -> List UInt8
 | [] => []
 | x :: l => x.wire ++ V.wireL l
end
theorem V.wire_eq (v : V) : v.wire = if v.kind = 1 \/ v.kind = 2 \/ v.kind = 9 then B8 (Ck v.kind) v.text.data.toList
   else if v.kind = 3 then numL 58 v.int
   else if v.kind = 7 then B8 44 (Bd v.real)
   else if v.kind = 8 then B8 35 (if v.flag then [116] else [102])
   else if v.kind = 6 then B8 95 []
   else if v.kind = 4 \/ v.kind = 10 \/ v.kind = 11 then longL (Ck v.kind) v.text.data.toList
   else if v.kind = 5 \/ v.kind = 12 \/ v.kind = 13 \/ v.kind = 14 then numL (Ck v.kind) (Ed v.kind v.list.length) ++ V.wireL v.list
   else []:=by cases v; rw [V.wire]; rfl
theorem V.wireL_append (a b : List V) : V.wireL (a ++ b) = V.wireL a ++ V.wireL b:=by
 induction a with
 | nil => rfl
 | cons x a ih => rw [List.cons_append,V.wireL,ih,V.wireL,List.append_assoc]
theorem V.wireL_snoc (l : List V) (x : V) : V.wireL (l ++ [x]) = V.wireL l ++ x.wire:=by
 rw [V.wireL_append,V.wireL,V.wireL,List.append_nil]
structure OkOut (v : V) : Prop where
 kind : 1 <= v.kind /\ v.kind <= 14
 text : ¬ (v.kind = 1 \/ v.kind = 2 \/ v.kind = 4 \/ v.kind = 9 \/ v.kind = 10 \/ v.kind = 11) -> v.text = ⟨#[]⟩
 int : v.kind ≠ 3 -> v.int = 0
 real : v.kind ≠ 7 -> Do v.real = 0
 flag : v.kind ≠ 8 -> v.flag = false
 list : ¬ (v.kind = 5 \/ v.kind = 12 \/ v.kind = 13 \/ v.kind = 14) -> v.list = []
 line : v.kind = 1 \/ v.kind = 2 -> crlfB v.text = false
 big : v.kind = 9 -> bigB v.text = true
 even : v.kind = 12 -> v.list.length % 2 = 0
 size : v.text.size <= 4096
theorem empty_text {t : ByteArray} (h : Dt t = true) : t = ⟨#[]⟩:=by
 unfold Dt at h;rw [List.isEmpty_iff,ByteArray.toList_eq] at h;exact ByteArray.ext (Array.toList_inj.1 h)
theorem Ak {v : V} (h : okV v = true) : OkOut v:=by
 unfold okV at h;rw [Bool.and_eq_true,Bool.and_eq_true,Bool.and_eq_true,decide_eq_true_eq] at h;obtain ⟨⟨⟨h1,h2⟩,h3⟩,h4⟩:=h;unfold C1 at h1;unfold B6 Bs at h2;simp only [Bool.and_eq_true,Bool.or_eq_true,decide_eq_true_eq] at h1 h2;obtain ⟨⟨⟨⟨a1,a2⟩,a3⟩,a4⟩,a5⟩:=h2;unfold Eb at h3;refine ⟨h1,fun hn => ?_,fun hn => ?_,fun hn => ?_,fun hn => ?_,fun hn => ?_,fun hk => ?_,fun hk => ?_,fun hk => ?_,h4⟩
 · rcases a1 with a | a
   · unfold Cr at a; exact absurd (of_decide_eq_true a) hn
   · exact empty_text a
 · rcases a2 with a | a
   · unfold numK at a; exact absurd (of_decide_eq_true a) hn
   · exact a
 · rcases a3 with a | a
   · unfold Dx at a; exact absurd (of_decide_eq_true a) hn
   · exact a
 · rcases a4 with a | a
   · unfold Dv at a; exact absurd (of_decide_eq_true a) hn
   · simpa using a
 · rcases a5 with a | a
   · unfold Bw at a; exact absurd (of_decide_eq_true a) hn
   · exact List.length_eq_zero_iff.1 a
 · rw [if_pos hk] at h3; simpa using h3
 · rw [if_neg (by omega),if_pos hk] at h3; exact h3
 · rw [if_neg (by omega),if_neg (by omega),if_neg (by omega),if_pos hk] at h3; exact of_decide_eq_true h3
theorem itoa_len21 {n : Int} (h0 : -9223372036854775808 <= n) (h1 : n <= 9223372036854775807) : (Lib.itoa n).length <= 21:=by
 have:=Lib.itoa_length_le n h0 h1; omega
theorem D4 (m : UInt8) (t : List UInt8) : (B8 m t).length = t.length + 3:=by unfold B8; simp
theorem numL_len (m : UInt8) {n : Int} (h0 : -9223372036854775808 <= n) (h1 : n <= 9223372036854775807) : (numL m n).length <= 24:=by
 have:=itoa_len21 h0 h1;unfold numL; rw [D4]; omega
theorem size_l' (t : ByteArray) : t.data.toList.length = t.size:=(Aq t).symm
theorem wire_len (a : V) : ∀ d : Int,a.fine d = true -> a.ranged -> a.count <= 100000 -> 3 <= a.wire.length /\ a.wire.length <= 5000 * a.count:=by
 induction a using V.ind with
 | h a ih =>
 intro d ha ra hc;rw [V.fine_eq,Bool.and_eq_true,Bool.and_eq_true] at ha;obtain ⟨⟨oa,_⟩,fa⟩:=ha;replace oa:=Ak oa;rw [V.ranged_eq] at ra;obtain ⟨ra1,ra2,ra3,ra4⟩:=ra;have hce:=a.count_eq;have hln:=V.length_le a.list;have key : ∀ (la : List V),(∀ z ∈ la,z ∈ a.list) -> V.fineL la (d - 1) = true -> V.rangedL la -> V.countL la <= 100000 -> (V.wireL la).length <= 5000 * V.countL la:=by
   intro la;induction la with
   | nil => intro _ _ _ _; exact Nat.zero_le _
   | cons p la ihl =>
     intro hm f1 r1 hc;simp only [V.fineL,Bool.and_eq_true] at f1;simp only [V.countL] at hc ⊢;have h1:=(ih p (hm p (List.mem_cons_self ..)) _ f1.1.2 r1.1 (by omega)).2;have h2:=ihl (fun z hz => hm z (List.mem_cons_of_mem _ hz)) f1.2 r1.2 (by omega);rw [V.wireL,List.length_append]; omega
 have hL:=key a.list (fun _ h => h) fa ra4 (by omega);have hsz:=oa.size;have hkk:=oa.kind;have hn : ∀ m : UInt8,∀ n : Nat,n <= 100000 -> (numL m (n : Int)).length <= 24:=fun m n hn => numL_len m (by omega) (by omega);have hn3 : ∀ (m : UInt8) (n : Int),3 <= (numL m n).length:=fun m n => by unfold numL; rw [D4]; omega
 have hm : Ed a.kind a.list.length <= 100000:=by unfold Ed; split <;> omega
 have ht:=size_l' a.text;have hr:=text_len ra3;rw [V.wire_eq];split
 · rw [D4]; omega
 split
 · have h1:=numL_len 58 ra1 ra2
   have h2:=hn3 58 a.int;omega
 split
 · rw [D4]; omega
 split
 · rw [D4]; split <;> simp <;> omega
 split
 · rw [D4]; simp; omega
 split
 · unfold longL
   have h1:=hn (Ck a.kind) a.text.data.toList.length (by omega);have h2:=hn3 (Ck a.kind) a.text.data.toList.length;simp only [List.length_append,List.length_cons,List.length_nil]; omega
 split
 · have h1:=hn (Ck a.kind) (Ed a.kind a.list.length) hm
   have h2:=hn3 (Ck a.kind) (Ed a.kind a.list.length);rw [List.length_append]; omega
 · omega
end Go.Proofs.YtagkgfniihiinaaGreatDoor
namespace Go.Proofs.YtagkgfniihiinaaGreatDoor
open Go.RowKit Go.Joins
def Gm (B : Nat) (w : World) : Addr -> Option Value:=fun a => if a.block < B then w.cell? a else none
theorem older_cell {B : Nat} {w : World} {a : Addr} {u : Value} (h : Gm B w a = some u) : w.cell? a = some u /\ a.block < B:=by
 unfold Gm at h;split at h
 · exact ⟨h,‹_›⟩
 · cases h
theorem At {B : Nat} {w w' : World} (hb : Below B w w') : ∀ a u,Gm B w a = some u -> Gm B w' a = some u:=fun a u h => by
 obtain ⟨h1,h2⟩:=older_cell h;unfold Gm;rw [if_pos h2,hb.cell h2]; exact h1
theorem Ar {B : Nat} {w : World} : ∀ a u,Gm B w a = some u -> w.cell? a = some u:=fun _ _ h => (older_cell h).1
theorem older_of {B : Nat} {w : World} (hB : w.heap.size <= B) : ∀ a u,w.cell? a = some u -> Gm B w a = some u:=fun a u h => by
 unfold Gm;rw [if_pos (Nat.lt_of_lt_of_le (World.block_lt_of_cell? _ _ h) hB)]; exact h
structure LaidV (B : Nat) (w : World) : Prop where
 nums : Laid B w
 flo : ∃ W0 : World,W0.heap.size <= B /\ Flo W0 /\ Below W0.heap.size W0 w
theorem LaidV.below {B B' : Nat} {w w' : World} (h : LaidV B w) (hb : Below B' w w') (hB : B <= B') : LaidV B w':=
 ⟨h.nums.below hb hB,let ⟨W0,h1,h2,h3⟩:=h.flo; ⟨W0,h1,h2,h3.trans (hb.mono (Nat.le_trans h1 hB))⟩⟩
theorem LaidV.of {w : World} (h : Nums w) (hf : Flo w) : LaidV w.heap.size w:=⟨Laid.of h,w,Nat.le_refl _,hf,Below.refl _ _⟩
theorem LaidV.mono {B B' : Nat} {w : World} (h : LaidV B w) (hB : B <= B') : LaidV B' w:=⟨h.nums.mono hB,let ⟨W0,h1,h2,h3⟩:=h.flo; ⟨W0,Nat.le_trans h1 hB,h2,h3⟩⟩
theorem flo_below {w w' : World} (h : Flo w) (hb : Below w.heap.size w w') : Flo w':=⟨h.pows.below hb h.pows.lt,Go.Joins.tab_stays Bn h.tens hb (Nat.le_refl _)⟩
theorem LaidV.isFlo {B : Nat} {w : World} (h : LaidV B w) : Flo w:=by
 obtain ⟨W0,h1,h2,h3⟩:=h.flo;exact flo_below h2 h3
def F9 (m : UInt8) (t : ByteArray) : ByteArray:=⟨#[m]⟩ ++ t ++ ⟨#[13,10]⟩
theorem Dr (a b : List UInt8) : (⟨(a ++ b).toArray⟩ : ByteArray) = ⟨a.toArray⟩ ++ ⟨b.toArray⟩:=by
 apply ByteArray.ext;simp [ByteArray.data_append]
theorem Er (m : UInt8) (t : ByteArray) : (⟨(B8 m t.data.toList).toArray⟩ : ByteArray) = F9 m t:=by
 apply ByteArray.ext;apply Array.toList_inj.1;simp [F9,B8,ByteArray.data_append]
theorem Eh (m : UInt8) (n : Int) : (⟨(numL m n).toArray⟩ : ByteArray) = numB m n:=by
 apply ByteArray.ext;apply Array.toList_inj.1;simp [numB,numL,B8,ByteArray.data_append]
theorem longB_eqL (m : UInt8) (t : ByteArray) : (⟨(longL m t.data.toList).toArray⟩ : ByteArray) = D7 m t:=by
 unfold longL D7;rw [Dr,Eh,Dr];have e : ((t.data.toList.length : Nat) : Int) = (t.size : Int):=by rw [size_l']
 rw [e,ByteArray.append_assoc]
set_option maxRecDepth 100000 in
set_option maxHeartbeats 1600000 in
theorem D6 {B : Nat} {w : World} {v : Value} {s : ByteArray} (m : UInt8) (t : ByteArray) (hR : Row B w v s) (hB : B <= w.heap.size) (hn : s.size <= 1000000000000) (ht : t.size <= 1000000000000) :
   Calls Tryz.prog 52 #[v,.int .u8 (m.toNat : Int),.string t] w fun e w' => ∃ v',e = .returned v' /\ Row B w' v' (s ++ F9 m t) /\ Below B w w' /\ NB w w':=by
 have hn1 : s.size + 1 <= 140737488355328:=by omega
 have hline : F9 m t = ⟨#[m]⟩ ++ t ++ ⟨#[13,10]⟩:=rfl
 have e1 : (⟨#[m]⟩ : ByteArray).size = 1:=rfl
 have e2 : (⟨#[13,10]⟩ : ByteArray).size = 2:=rfl
 have hn2 : (s ++ ⟨#[m]⟩).size + t.size <= 140737488355328:=by rw [ByteArray.size_append,e1]; omega
 have hn3 : (s ++ ⟨#[m]⟩ ++ t).size + (⟨#[13,10]⟩ : ByteArray).size <= 140737488355328:=by rw [ByteArray.size_append,ByteArray.size_append,e1,e2]; omega
 clear e1 e2
 replace hR:=Hd hR
 replace hline:=Hd hline
 go_enter Tryz.func52,Tryz.ntmps52
 go_wp2_with (at_builtin; refine app_byteN rfl rfl rfl hR.out rfl hn1 hB ?_)
 intro v1 w1 hR1 hb1 n1
 replace n1:=Hd n1
 have hB1 : B <= w1.heap.size:=Nat.le_trans hB hb1.size
 replace hR1:=Hd hR1
 replace hb1:=Hd hb1
 go_wp2_with (at_builtin; refine Di rfl rfl rfl hR1.out rfl hn2 hB1 ?_)
 intro v3 w3 hR3 hb3 n3
 replace n3:=Hd (n1.out.trans n3)
 have hb13:=hb1.out.trans hb3
 have hB3 : B <= w3.heap.size:=Nat.le_trans hB1 hb3.size
 clear hR1 hb1 hb3
 replace hR3:=Hd hR3
 replace hb13:=Hd hb13
 go_wp2_with (at_builtin; refine Di rfl rfl rfl hR3.out rfl hn3 hB3 ?_)
 intro v4 w4 hR4 hb4 n4
 replace n4:=Hd (n3.out.trans n4)
 have hb14:=hb13.out.trans hb4
 clear hR3 hb13 hb4
 go_wp2_with fail
 go_ret
 refine ⟨_,rfl,?_,hb14,n4.out⟩
 rw [hline.out,<- ByteArray.append_assoc,<- ByteArray.append_assoc]
 exact hR4
def marksV : Value:=.agg #[.int .u8 0,.int .u8 43,.int .u8 45,.int .u8 58,.int .u8 36,.int .u8 42,.int .u8 95,.int .u8 44,.int .u8 35,.int .u8 40,.int .u8 33,.int .u8 61,.int .u8 37,.int .u8 126,.int .u8 62]
theorem Be (w : World) : Calls Tryz.prog 51 #[] w fun e w' => e = .returned marksV /\ Below w.heap.size w w':=by
 have hal:=fun (o : Obj) => (Below.refl w.heap.size w).alloc (Nat.le_refl _) o;replace hal:=Hd hal
 go_enter Tryz.func51,Tryz.ntmps51
 go_wp2;exact bodyPost_ret (v:=marksV) (by simp [results,Tryz.results51,go_sem,marksV]) rfl ⟨rfl,hal.out _⟩
theorem Ce (k : Int) (h : 1 <= k /\ k <= 14) (w : World) : (Instr.index 80 marksV (.int .i64 k)).run Tryz.prog w = .ok (.int .u8 ((Ck k).toNat : Int)) w:=by
 rcases (by omega : k = 1 \/ k = 2 \/ k = 3 \/ k = 4 \/ k = 5 \/ k = 6 \/ k = 7 \/ k = 8 \/ k = 9 \/ k = 10 \/ k = 11 \/ k = 12 \/ k = 13 \/ k = 14) with rfl | rfl | rfl | rfl | rfl | rfl | rfl | rfl | rfl | rfl | rfl | rfl | rfl | rfl <;> kernel_rfl
theorem A4 {l : List V} {d : Int} (h : V.fineL l d = true) : ∀ x ∈ l,x.fine d = true:=by
 induction l with
 | nil => intro x hx; cases hx
 | cons y l ih =>
   intro x hx;simp only [V.fineL,Bool.and_eq_true] at h;rcases List.mem_cons.1 hx with rfl | hx
   · exact h.1.2
   · exact ih h.2 x hx
theorem F3 (l : List V) (d : Int) (h : V.fineL l d = true) (r : V.rangedL l) (c : V.countL l <= 100000) : (V.wireL l).length <= 5000 * V.countL l:=by
 induction l with
 | nil => exact Nat.zero_le _
 | cons p l ih =>
   simp only [V.fineL,Bool.and_eq_true] at h;simp only [V.countL] at c ⊢;have h1:=(wire_len p d h.1.2 r.1 (by omega)).2;have h2:=ih h.2 r.2 (by omega);rw [V.wireL,List.length_append]; omega
theorem Al (w : World) (o : Obj) : (w.alloc o).heap[w.heap.size]? = some o:=by show (w.heap.push _)[w.heap.size]? = _; simp
structure PutH (v : V) (k : Int) (t : ByteArray) (i : Int) (r : Nat) (f : Bool) (a : Option Addr) (n cap : Nat) (d : Int) (B : Nat) (w : World) (b : Value) (s : ByteArray) : Prop where
 val : RV (Gm B w) (Ae k t i r f a n cap) v
 fine : v.fine d = true
 ranged : v.ranged
 count : v.count <= 100000
 laid : LaidV B w
 row : Row B w b s
 base : B <= w.heap.size
 size : s.size + 5000 * v.count <= 1000000000000
def PutQ (v : V) (B : Nat) (w : World) (s : ByteArray) (e : Ending) (w' : World) : Prop:=∃ b',e = .returned b' /\ Row B w' b' (s ++ ⟨v.wire.toArray⟩) /\ Below B w w' /\ NB w w'
set_option maxRecDepth 100000 in
set_option maxHeartbeats 3200000 in
theorem put_1 {v : V} {t : ByteArray} {i : Int} {r : Nat} {f : Bool} {a : Option Addr} {n cap : Nat} {d : Int} {B : Nat} {w : World} {b : Value} {s : ByteArray} (hp : PutH v 1 t i r f a n cap d B w b s) :
   Calls Tryz.prog 33 #[b,.agg #[.int .i64 1,.string t,.int .i64 i,.float .f64 r,.bool f,.slice a n cap]] w (PutQ v B w s):=by
 obtain ⟨hv,hf,hr,hc,hL,hR,hB,hs⟩:=hp
 obtain ⟨ek,et,ei,er,ef,en⟩:=hv.len
 have hfe:=hf
 rw [V.fine_eq,Bool.and_eq_true,Bool.and_eq_true] at hfe
 have ok:=Ak hfe.1.1
 have hts:=ok.size
 rw [<- et] at hts
 have hra:=hr
 rw [V.ranged_eq,<- ei,<- er] at hra
 have hcp:=v.count_pos
 have hce0:=v.count_eq
 have hln:=V.length_le v.list
 rw [<- en] at hln
 have hn9 : n <= 100000:=by omega
 clear hce0 hln
 replace hL:=Hd hL
 replace hR:=Hd hR
 replace hv:=Hd hv
 replace hf:=Hd hf
 replace hr:=Hd hr
 replace ok:=Hd ok
 replace hfe:=Hd hfe
 replace hra:=Hd hra
 replace ek:=Hd ek
 replace et:=Hd et
 replace ei:=Hd ei
 replace er:=Hd er
 replace ef:=Hd ef
 replace en:=Hd en
 have hwe : (⟨v.wire.toArray⟩ : ByteArray) = F9 43 t:=by
   rw [<- Er];congr 1;rw [V.wire_eq,<- ek.out]; (first | rfl | (rw [<- et.out]; rfl))
 replace hwe:=Hd hwe
 have hix:=Ce 1 (by omega)
 replace hix:=Hd hix
 have hix:=fun W => hix.out W
 obtain ⟨W1,hW1⟩ : ∃ W1,W1 = w.alloc (.cells #[.int .i64 1,.string t,.int .i64 i,.float .f64 r,.bool f,.slice a n cap] 26):=⟨_,rfl⟩
 have hb0 : Below w.heap.size w W1:=by rw [hW1]; exact (Below.refl _ _).alloc (Nat.le_refl _) _
 have hcell : ∀ q u,#[.int .i64 1,.string t,.int .i64 i,.float .f64 r,.bool f,.slice a n cap][q]? = some u -> W1.cell? ⟨w.heap.size,q,none⟩ = some u:=fun q u h => by rw [hW1,World.cell?_alloc_new]; exact h
 have c0:=hcell 0 (.int .i64 1) rfl
 have hlt : w.heap.size < W1.heap.size:=World.block_lt_of_cell? _ _ c0
 replace hW1:=Hd hW1
 replace hcell:=Hd hcell
 replace hb0:=Hd hb0
 go_enter Tryz.func33,Tryz.ntmps33
 go_wp2_with fail
 rw [<- hW1.out]
 go_wp2_with fail
 refine Ah (by kernel_rfl) (by kernel_rfl) ?_
 repeat (go_big_quiet_step ((go_at_call 51; (with_reducible exact Ay (Be _)))))
 refine wpQuiet_nil ?_
 rintro _ ⟨xq,rfl⟩
 have hS:=Ap W1 xq
 obtain ⟨W2,hW2⟩ : ∃ W2,W2 = grow W1 xq:=⟨_,rfl⟩
 rw [<- hW2] at hS ⊢
 have g0:=Aa hS _ _ (hcell.out 0 (.int .i64 1) rfl)
 have g1:=Aa hS _ _ (hcell.out 1 (.string t) rfl)
 have g2:=Aa hS _ _ (hcell.out 2 (.int .i64 i) rfl)
 have g3:=Aa hS _ _ (hcell.out 3 (.float .f64 r) rfl)
 have g4:=Aa hS _ _ (hcell.out 4 (.bool f) rfl)
 have g5:=Aa hS _ _ (hcell.out 5 (.slice a n cap) rfl)
 have hb2 : Below w.heap.size w W2:=hb0.out.trans (hS.mono hb0.out.size)
 have hR2:=hR.out.below hb2 (Nat.le_refl _)
 have hL2:=hL.out.below hb2 hB
 have hB2 : B <= W2.heap.size:=Nat.le_trans hB hb2.size
 have hbB : Below B w W2:=hb2.mono hB
 have nb2 : NB w W2:=NB.of_below hb2
 have hbox : W2.heap[w.heap.size]? = some (.cells #[.int .i64 1,.string t,.int .i64 i,.float .f64 r,.bool f,.slice a n cap] 26):=by rw [hS.block _ hlt,hW1.out]; exact Al _ _
 clear c0 hS hlt
 replace nb2:=Hd nb2
 replace hbox:=Hd hbox
 replace hW2:=Hd hW2
 replace hR2:=Hd hR2
 replace hL2:=Hd hL2
 replace hbB:=Hd hbB
 replace hb2:=Hd hb2
 go_wp2_with fail
 refine (D6 43 t hR2.out hB2 (by omega) (by omega)).mono ?_
 rintro e w3 ⟨b',rfl,hR3,hb3,n3⟩
 rw [<- hwe.out] at hR3
 have hb13:=hbB.out.trans hb3
 have nb3:=nb2.out.trans n3
 replace hR3:=Hd hR3
 replace hb13:=Hd hb13
 replace nb3:=Hd nb3
 clear hb3 n3 g0 g1 g2 g3 g4 g5
 go_wp2_with fail
 go_ret
 exact ⟨_,rfl,hR3.out,hb13.out,nb3.out⟩
set_option maxRecDepth 100000 in
set_option maxHeartbeats 3200000 in
theorem put_2 {v : V} {t : ByteArray} {i : Int} {r : Nat} {f : Bool} {a : Option Addr} {n cap : Nat} {d : Int} {B : Nat} {w : World} {b : Value} {s : ByteArray} (hp : PutH v 2 t i r f a n cap d B w b s) :
   Calls Tryz.prog 33 #[b,.agg #[.int .i64 2,.string t,.int .i64 i,.float .f64 r,.bool f,.slice a n cap]] w (PutQ v B w s):=by
 obtain ⟨hv,hf,hr,hc,hL,hR,hB,hs⟩:=hp
 obtain ⟨ek,et,ei,er,ef,en⟩:=hv.len
 have hfe:=hf
 rw [V.fine_eq,Bool.and_eq_true,Bool.and_eq_true] at hfe
 have ok:=Ak hfe.1.1
 have hts:=ok.size
 rw [<- et] at hts
 have hra:=hr
 rw [V.ranged_eq,<- ei,<- er] at hra
 have hcp:=v.count_pos
 have hce0:=v.count_eq
 have hln:=V.length_le v.list
 rw [<- en] at hln
 have hn9 : n <= 100000:=by omega
 clear hce0 hln
 replace hL:=Hd hL
 replace hR:=Hd hR
 replace hv:=Hd hv
 replace hf:=Hd hf
 replace hr:=Hd hr
 replace ok:=Hd ok
 replace hfe:=Hd hfe
 replace hra:=Hd hra
 replace ek:=Hd ek
 replace et:=Hd et
 replace ei:=Hd ei
 replace er:=Hd er
 replace ef:=Hd ef
 replace en:=Hd en
 have hwe : (⟨v.wire.toArray⟩ : ByteArray) = F9 45 t:=by
   rw [<- Er];congr 1;rw [V.wire_eq,<- ek.out]; (first | rfl | (rw [<- et.out]; rfl))
 replace hwe:=Hd hwe
 have hix:=Ce 2 (by omega)
 replace hix:=Hd hix
 have hix:=fun W => hix.out W
 obtain ⟨W1,hW1⟩ : ∃ W1,W1 = w.alloc (.cells #[.int .i64 2,.string t,.int .i64 i,.float .f64 r,.bool f,.slice a n cap] 26):=⟨_,rfl⟩
 have hb0 : Below w.heap.size w W1:=by rw [hW1]; exact (Below.refl _ _).alloc (Nat.le_refl _) _
 have hcell : ∀ q u,#[.int .i64 2,.string t,.int .i64 i,.float .f64 r,.bool f,.slice a n cap][q]? = some u -> W1.cell? ⟨w.heap.size,q,none⟩ = some u:=fun q u h => by rw [hW1,World.cell?_alloc_new]; exact h
 have c0:=hcell 0 (.int .i64 2) rfl
 have hlt : w.heap.size < W1.heap.size:=World.block_lt_of_cell? _ _ c0
 replace hW1:=Hd hW1
 replace hcell:=Hd hcell
 replace hb0:=Hd hb0
 go_enter Tryz.func33,Tryz.ntmps33
 go_wp2_with fail
 rw [<- hW1.out]
 go_wp2_with fail
 refine Ah (by kernel_rfl) (by kernel_rfl) ?_
 repeat (go_big_quiet_step ((go_at_call 51; (with_reducible exact Ay (Be _)))))
 refine wpQuiet_nil ?_
 rintro _ ⟨xq,rfl⟩
 have hS:=Ap W1 xq
 obtain ⟨W2,hW2⟩ : ∃ W2,W2 = grow W1 xq:=⟨_,rfl⟩
 rw [<- hW2] at hS ⊢
 have g0:=Aa hS _ _ (hcell.out 0 (.int .i64 2) rfl)
 have g1:=Aa hS _ _ (hcell.out 1 (.string t) rfl)
 have g2:=Aa hS _ _ (hcell.out 2 (.int .i64 i) rfl)
 have g3:=Aa hS _ _ (hcell.out 3 (.float .f64 r) rfl)
 have g4:=Aa hS _ _ (hcell.out 4 (.bool f) rfl)
 have g5:=Aa hS _ _ (hcell.out 5 (.slice a n cap) rfl)
 have hb2 : Below w.heap.size w W2:=hb0.out.trans (hS.mono hb0.out.size)
 have hR2:=hR.out.below hb2 (Nat.le_refl _)
 have hL2:=hL.out.below hb2 hB
 have hB2 : B <= W2.heap.size:=Nat.le_trans hB hb2.size
 have hbB : Below B w W2:=hb2.mono hB
 have nb2 : NB w W2:=NB.of_below hb2
 have hbox : W2.heap[w.heap.size]? = some (.cells #[.int .i64 2,.string t,.int .i64 i,.float .f64 r,.bool f,.slice a n cap] 26):=by rw [hS.block _ hlt,hW1.out]; exact Al _ _
 clear c0 hS hlt
 replace nb2:=Hd nb2
 replace hbox:=Hd hbox
 replace hW2:=Hd hW2
 replace hR2:=Hd hR2
 replace hL2:=Hd hL2
 replace hbB:=Hd hbB
 replace hb2:=Hd hb2
 go_wp2_with fail
 refine (D6 45 t hR2.out hB2 (by omega) (by omega)).mono ?_
 rintro e w3 ⟨b',rfl,hR3,hb3,n3⟩
 rw [<- hwe.out] at hR3
 have hb13:=hbB.out.trans hb3
 have nb3:=nb2.out.trans n3
 replace hR3:=Hd hR3
 replace hb13:=Hd hb13
 replace nb3:=Hd nb3
 clear hb3 n3 g0 g1 g2 g3 g4 g5
 go_wp2_with fail
 go_ret
 exact ⟨_,rfl,hR3.out,hb13.out,nb3.out⟩
set_option maxRecDepth 100000 in
set_option maxHeartbeats 3200000 in
theorem put_9 {v : V} {t : ByteArray} {i : Int} {r : Nat} {f : Bool} {a : Option Addr} {n cap : Nat} {d : Int} {B : Nat} {w : World} {b : Value} {s : ByteArray} (hp : PutH v 9 t i r f a n cap d B w b s) :
   Calls Tryz.prog 33 #[b,.agg #[.int .i64 9,.string t,.int .i64 i,.float .f64 r,.bool f,.slice a n cap]] w (PutQ v B w s):=by
 obtain ⟨hv,hf,hr,hc,hL,hR,hB,hs⟩:=hp
 obtain ⟨ek,et,ei,er,ef,en⟩:=hv.len
 have hfe:=hf
 rw [V.fine_eq,Bool.and_eq_true,Bool.and_eq_true] at hfe
 have ok:=Ak hfe.1.1
 have hts:=ok.size
 rw [<- et] at hts
 have hra:=hr
 rw [V.ranged_eq,<- ei,<- er] at hra
 have hcp:=v.count_pos
 have hce0:=v.count_eq
 have hln:=V.length_le v.list
 rw [<- en] at hln
 have hn9 : n <= 100000:=by omega
 clear hce0 hln
 replace hL:=Hd hL
 replace hR:=Hd hR
 replace hv:=Hd hv
 replace hf:=Hd hf
 replace hr:=Hd hr
 replace ok:=Hd ok
 replace hfe:=Hd hfe
 replace hra:=Hd hra
 replace ek:=Hd ek
 replace et:=Hd et
 replace ei:=Hd ei
 replace er:=Hd er
 replace ef:=Hd ef
 replace en:=Hd en
 have hwe : (⟨v.wire.toArray⟩ : ByteArray) = F9 40 t:=by
   rw [<- Er];congr 1;rw [V.wire_eq,<- ek.out]; (first | rfl | (rw [<- et.out]; rfl))
 replace hwe:=Hd hwe
 have hix:=Ce 9 (by omega)
 replace hix:=Hd hix
 have hix:=fun W => hix.out W
 obtain ⟨W1,hW1⟩ : ∃ W1,W1 = w.alloc (.cells #[.int .i64 9,.string t,.int .i64 i,.float .f64 r,.bool f,.slice a n cap] 26):=⟨_,rfl⟩
 have hb0 : Below w.heap.size w W1:=by rw [hW1]; exact (Below.refl _ _).alloc (Nat.le_refl _) _
 have hcell : ∀ q u,#[.int .i64 9,.string t,.int .i64 i,.float .f64 r,.bool f,.slice a n cap][q]? = some u -> W1.cell? ⟨w.heap.size,q,none⟩ = some u:=fun q u h => by rw [hW1,World.cell?_alloc_new]; exact h
 have c0:=hcell 0 (.int .i64 9) rfl
 have hlt : w.heap.size < W1.heap.size:=World.block_lt_of_cell? _ _ c0
 replace hW1:=Hd hW1
 replace hcell:=Hd hcell
 replace hb0:=Hd hb0
 go_enter Tryz.func33,Tryz.ntmps33
 go_wp2_with fail
 rw [<- hW1.out]
 go_wp2_with fail
 refine Ah (by kernel_rfl) (by kernel_rfl) ?_
 repeat (go_big_quiet_step ((go_at_call 51; (with_reducible exact Ay (Be _)))))
 refine wpQuiet_nil ?_
 rintro _ ⟨xq,rfl⟩
 have hS:=Ap W1 xq
 obtain ⟨W2,hW2⟩ : ∃ W2,W2 = grow W1 xq:=⟨_,rfl⟩
 rw [<- hW2] at hS ⊢
 have g0:=Aa hS _ _ (hcell.out 0 (.int .i64 9) rfl)
 have g1:=Aa hS _ _ (hcell.out 1 (.string t) rfl)
 have g2:=Aa hS _ _ (hcell.out 2 (.int .i64 i) rfl)
 have g3:=Aa hS _ _ (hcell.out 3 (.float .f64 r) rfl)
 have g4:=Aa hS _ _ (hcell.out 4 (.bool f) rfl)
 have g5:=Aa hS _ _ (hcell.out 5 (.slice a n cap) rfl)
 have hb2 : Below w.heap.size w W2:=hb0.out.trans (hS.mono hb0.out.size)
 have hR2:=hR.out.below hb2 (Nat.le_refl _)
 have hL2:=hL.out.below hb2 hB
 have hB2 : B <= W2.heap.size:=Nat.le_trans hB hb2.size
 have hbB : Below B w W2:=hb2.mono hB
 have nb2 : NB w W2:=NB.of_below hb2
 have hbox : W2.heap[w.heap.size]? = some (.cells #[.int .i64 9,.string t,.int .i64 i,.float .f64 r,.bool f,.slice a n cap] 26):=by rw [hS.block _ hlt,hW1.out]; exact Al _ _
 clear c0 hS hlt
 replace nb2:=Hd nb2
 replace hbox:=Hd hbox
 replace hW2:=Hd hW2
 replace hR2:=Hd hR2
 replace hL2:=Hd hL2
 replace hbB:=Hd hbB
 replace hb2:=Hd hb2
 go_wp2_with fail
 refine (D6 40 t hR2.out hB2 (by omega) (by omega)).mono ?_
 rintro e w3 ⟨b',rfl,hR3,hb3,n3⟩
 rw [<- hwe.out] at hR3
 have hb13:=hbB.out.trans hb3
 have nb3:=nb2.out.trans n3
 replace hR3:=Hd hR3
 replace hb13:=Hd hb13
 replace nb3:=Hd nb3
 clear hb3 n3 g0 g1 g2 g3 g4 g5
 go_wp2_with fail
 go_ret
 exact ⟨_,rfl,hR3.out,hb13.out,nb3.out⟩
set_option maxRecDepth 100000 in
set_option maxHeartbeats 3200000 in
theorem put_3 {v : V} {t : ByteArray} {i : Int} {r : Nat} {f : Bool} {a : Option Addr} {n cap : Nat} {d : Int} {B : Nat} {w : World} {b : Value} {s : ByteArray} (hp : PutH v 3 t i r f a n cap d B w b s) :
   Calls Tryz.prog 33 #[b,.agg #[.int .i64 3,.string t,.int .i64 i,.float .f64 r,.bool f,.slice a n cap]] w (PutQ v B w s):=by
 obtain ⟨hv,hf,hr,hc,hL,hR,hB,hs⟩:=hp
 obtain ⟨ek,et,ei,er,ef,en⟩:=hv.len
 have hfe:=hf
 rw [V.fine_eq,Bool.and_eq_true,Bool.and_eq_true] at hfe
 have ok:=Ak hfe.1.1
 have hts:=ok.size
 rw [<- et] at hts
 have hra:=hr
 rw [V.ranged_eq,<- ei,<- er] at hra
 have hcp:=v.count_pos
 have hce0:=v.count_eq
 have hln:=V.length_le v.list
 rw [<- en] at hln
 have hn9 : n <= 100000:=by omega
 clear hce0 hln
 replace hL:=Hd hL
 replace hR:=Hd hR
 replace hv:=Hd hv
 replace hf:=Hd hf
 replace hr:=Hd hr
 replace ok:=Hd ok
 replace hfe:=Hd hfe
 replace hra:=Hd hra
 replace ek:=Hd ek
 replace et:=Hd et
 replace ei:=Hd ei
 replace er:=Hd er
 replace ef:=Hd ef
 replace en:=Hd en
 have hwe : (⟨v.wire.toArray⟩ : ByteArray) = numB 58 i:=by
   rw [<- Eh];congr 1;rw [V.wire_eq,<- ek.out,<- ei.out]; rfl
 replace hwe:=Hd hwe
 have hix:=Ce 3 (by omega)
 replace hix:=Hd hix
 have hix:=fun W => hix.out W
 obtain ⟨W1,hW1⟩ : ∃ W1,W1 = w.alloc (.cells #[.int .i64 3,.string t,.int .i64 i,.float .f64 r,.bool f,.slice a n cap] 26):=⟨_,rfl⟩
 have hb0 : Below w.heap.size w W1:=by rw [hW1]; exact (Below.refl _ _).alloc (Nat.le_refl _) _
 have hcell : ∀ q u,#[.int .i64 3,.string t,.int .i64 i,.float .f64 r,.bool f,.slice a n cap][q]? = some u -> W1.cell? ⟨w.heap.size,q,none⟩ = some u:=fun q u h => by rw [hW1,World.cell?_alloc_new]; exact h
 have c0:=hcell 0 (.int .i64 3) rfl
 have hlt : w.heap.size < W1.heap.size:=World.block_lt_of_cell? _ _ c0
 replace hW1:=Hd hW1
 replace hcell:=Hd hcell
 replace hb0:=Hd hb0
 go_enter Tryz.func33,Tryz.ntmps33
 go_wp2_with fail
 rw [<- hW1.out]
 go_wp2_with fail
 refine Ah (by kernel_rfl) (by kernel_rfl) ?_
 repeat (go_big_quiet_step ((go_at_call 51; (with_reducible exact Ay (Be _)))))
 refine wpQuiet_nil ?_
 rintro _ ⟨xq,rfl⟩
 have hS:=Ap W1 xq
 obtain ⟨W2,hW2⟩ : ∃ W2,W2 = grow W1 xq:=⟨_,rfl⟩
 rw [<- hW2] at hS ⊢
 have g0:=Aa hS _ _ (hcell.out 0 (.int .i64 3) rfl)
 have g1:=Aa hS _ _ (hcell.out 1 (.string t) rfl)
 have g2:=Aa hS _ _ (hcell.out 2 (.int .i64 i) rfl)
 have g3:=Aa hS _ _ (hcell.out 3 (.float .f64 r) rfl)
 have g4:=Aa hS _ _ (hcell.out 4 (.bool f) rfl)
 have g5:=Aa hS _ _ (hcell.out 5 (.slice a n cap) rfl)
 have hb2 : Below w.heap.size w W2:=hb0.out.trans (hS.mono hb0.out.size)
 have hR2:=hR.out.below hb2 (Nat.le_refl _)
 have hL2:=hL.out.below hb2 hB
 have hB2 : B <= W2.heap.size:=Nat.le_trans hB hb2.size
 have hbB : Below B w W2:=hb2.mono hB
 have nb2 : NB w W2:=NB.of_below hb2
 have hbox : W2.heap[w.heap.size]? = some (.cells #[.int .i64 3,.string t,.int .i64 i,.float .f64 r,.bool f,.slice a n cap] 26):=by rw [hS.block _ hlt,hW1.out]; exact Al _ _
 clear c0 hS hlt
 replace nb2:=Hd nb2
 replace hbox:=Hd hbox
 replace hW2:=Hd hW2
 replace hR2:=Hd hR2
 replace hL2:=Hd hL2
 replace hbB:=Hd hbB
 replace hb2:=Hd hb2
 go_wp2_with fail
 refine (Cm 58 i hra.out.1 hra.out.2.1 hL2.out.nums hR2.out hB2 (by omega)).mono ?_
 rintro e w3 ⟨b',rfl,hR3,hb3,n3⟩
 rw [<- hwe.out] at hR3
 have hb13:=hbB.out.trans hb3
 have nb3:=nb2.out.trans n3
 replace hR3:=Hd hR3
 replace hb13:=Hd hb13
 replace nb3:=Hd nb3
 clear hb3 n3 g0 g1 g2 g3 g4 g5
 go_wp2_with fail
 go_ret
 exact ⟨_,rfl,hR3.out,hb13.out,nb3.out⟩
set_option maxRecDepth 100000 in
set_option maxHeartbeats 3200000 in
theorem put_7 {v : V} {t : ByteArray} {i : Int} {r : Nat} {f : Bool} {a : Option Addr} {n cap : Nat} {d : Int} {B : Nat} {w : World} {b : Value} {s : ByteArray} (hp : PutH v 7 t i r f a n cap d B w b s) :
   Calls Tryz.prog 33 #[b,.agg #[.int .i64 7,.string t,.int .i64 i,.float .f64 r,.bool f,.slice a n cap]] w (PutQ v B w s):=by
 obtain ⟨hv,hf,hr,hc,hL,hR,hB,hs⟩:=hp
 obtain ⟨ek,et,ei,er,ef,en⟩:=hv.len
 have hfe:=hf
 rw [V.fine_eq,Bool.and_eq_true,Bool.and_eq_true] at hfe
 have ok:=Ak hfe.1.1
 have hts:=ok.size
 rw [<- et] at hts
 have hra:=hr
 rw [V.ranged_eq,<- ei,<- er] at hra
 have hcp:=v.count_pos
 have hce0:=v.count_eq
 have hln:=V.length_le v.list
 rw [<- en] at hln
 have hn9 : n <= 100000:=by omega
 clear hce0 hln
 replace hL:=Hd hL
 replace hR:=Hd hR
 replace hv:=Hd hv
 replace hf:=Hd hf
 replace hr:=Hd hr
 replace ok:=Hd ok
 replace hfe:=Hd hfe
 replace hra:=Hd hra
 replace ek:=Hd ek
 replace et:=Hd et
 replace ei:=Hd ei
 replace er:=Hd er
 replace ef:=Hd ef
 replace en:=Hd en
 have hwe : (⟨v.wire.toArray⟩ : ByteArray) = F9 44 ⟨(Bd r).toArray⟩:=by
   rw [<- Er];congr 1;rw [V.wire_eq,<- ek.out,<- er.out]; rfl
 replace hwe:=Hd hwe
 have hix:=Ce 7 (by omega)
 replace hix:=Hd hix
 have hix:=fun W => hix.out W
 obtain ⟨W1,hW1⟩ : ∃ W1,W1 = w.alloc (.cells #[.int .i64 7,.string t,.int .i64 i,.float .f64 r,.bool f,.slice a n cap] 26):=⟨_,rfl⟩
 have hb0 : Below w.heap.size w W1:=by rw [hW1]; exact (Below.refl _ _).alloc (Nat.le_refl _) _
 have hcell : ∀ q u,#[.int .i64 7,.string t,.int .i64 i,.float .f64 r,.bool f,.slice a n cap][q]? = some u -> W1.cell? ⟨w.heap.size,q,none⟩ = some u:=fun q u h => by rw [hW1,World.cell?_alloc_new]; exact h
 have c0:=hcell 0 (.int .i64 7) rfl
 have hlt : w.heap.size < W1.heap.size:=World.block_lt_of_cell? _ _ c0
 replace hW1:=Hd hW1
 replace hcell:=Hd hcell
 replace hb0:=Hd hb0
 go_enter Tryz.func33,Tryz.ntmps33
 go_wp2_with fail
 rw [<- hW1.out]
 go_wp2_with fail
 refine Ah (by kernel_rfl) (by kernel_rfl) ?_
 repeat (go_big_quiet_step ((go_at_call 51; (with_reducible exact Ay (Be _)))))
 refine wpQuiet_nil ?_
 rintro _ ⟨xq,rfl⟩
 have hS:=Ap W1 xq
 obtain ⟨W2,hW2⟩ : ∃ W2,W2 = grow W1 xq:=⟨_,rfl⟩
 rw [<- hW2] at hS ⊢
 have g0:=Aa hS _ _ (hcell.out 0 (.int .i64 7) rfl)
 have g1:=Aa hS _ _ (hcell.out 1 (.string t) rfl)
 have g2:=Aa hS _ _ (hcell.out 2 (.int .i64 i) rfl)
 have g3:=Aa hS _ _ (hcell.out 3 (.float .f64 r) rfl)
 have g4:=Aa hS _ _ (hcell.out 4 (.bool f) rfl)
 have g5:=Aa hS _ _ (hcell.out 5 (.slice a n cap) rfl)
 have hb2 : Below w.heap.size w W2:=hb0.out.trans (hS.mono hb0.out.size)
 have hR2:=hR.out.below hb2 (Nat.le_refl _)
 have hL2:=hL.out.below hb2 hB
 have hB2 : B <= W2.heap.size:=Nat.le_trans hB hb2.size
 have hbB : Below B w W2:=hb2.mono hB
 have nb2 : NB w W2:=NB.of_below hb2
 have hbox : W2.heap[w.heap.size]? = some (.cells #[.int .i64 7,.string t,.int .i64 i,.float .f64 r,.bool f,.slice a n cap] 26):=by rw [hS.block _ hlt,hW1.out]; exact Al _ _
 clear c0 hS hlt
 replace nb2:=Hd nb2
 replace hbox:=Hd hbox
 replace hW2:=Hd hW2
 replace hR2:=Hd hR2
 replace hL2:=Hd hL2
 replace hbB:=Hd hbB
 replace hb2:=Hd hb2
 go_wp2_with fail
 refine (realText_any hra.out.2.2.1 hL2.out.isFlo).mono ?_
 rintro e w5 ⟨T,rfl,hT,hb5⟩
 have hTl : T.size <= 25:=by rw [Aq,hT]; exact text_len hra.out.2.2.1
 have hTe : T = ⟨(Bd r).toArray⟩:=D5 hT
 have hR5:=hR2.out.below hb5 (Nat.le_refl _)
 have hb25:=hb5.mono hB2
 have hB5 : B <= w5.heap.size:=Nat.le_trans hB2 hb5.size
 have n5:=NB.of_below hb5
 replace n5:=Hd n5
 replace hTe:=Hd hTe
 replace hR5:=Hd hR5
 replace hb25:=Hd hb25
 clear hb5 hT
 go_wp2_with fail
 refine (D6 44 T hR5.out hB5 (by omega) (by omega)).mono ?_
 rintro e w3 ⟨b',rfl,hR3,hb3,n3⟩
 replace hb3:=hb25.out.trans hb3
 replace n3:=n5.out.trans n3
 rw [hTe.out] at hR3
 rw [<- hwe.out] at hR3
 have hb13:=hbB.out.trans hb3
 have nb3:=nb2.out.trans n3
 replace hR3:=Hd hR3
 replace hb13:=Hd hb13
 replace nb3:=Hd nb3
 clear hb3 n3 g0 g1 g2 g3 g4 g5
 go_wp2_with fail
 go_ret
 exact ⟨_,rfl,hR3.out,hb13.out,nb3.out⟩
set_option maxRecDepth 100000 in
set_option maxHeartbeats 3200000 in
theorem put_8 {v : V} {t : ByteArray} {i : Int} {r : Nat} {f : Bool} {a : Option Addr} {n cap : Nat} {d : Int} {B : Nat} {w : World} {b : Value} {s : ByteArray} (hp : PutH v 8 t i r f a n cap d B w b s) :
   Calls Tryz.prog 33 #[b,.agg #[.int .i64 8,.string t,.int .i64 i,.float .f64 r,.bool f,.slice a n cap]] w (PutQ v B w s):=by
 obtain ⟨hv,hf,hr,hc,hL,hR,hB,hs⟩:=hp
 obtain ⟨ek,et,ei,er,ef,en⟩:=hv.len
 have hfe:=hf
 rw [V.fine_eq,Bool.and_eq_true,Bool.and_eq_true] at hfe
 have ok:=Ak hfe.1.1
 have hts:=ok.size
 rw [<- et] at hts
 have hra:=hr
 rw [V.ranged_eq,<- ei,<- er] at hra
 have hcp:=v.count_pos
 have hce0:=v.count_eq
 have hln:=V.length_le v.list
 rw [<- en] at hln
 have hn9 : n <= 100000:=by omega
 clear hce0 hln
 replace hL:=Hd hL
 replace hR:=Hd hR
 replace hv:=Hd hv
 replace hf:=Hd hf
 replace hr:=Hd hr
 replace ok:=Hd ok
 replace hfe:=Hd hfe
 replace hra:=Hd hra
 replace ek:=Hd ek
 replace et:=Hd et
 replace ei:=Hd ei
 replace er:=Hd er
 replace ef:=Hd ef
 replace en:=Hd en
 have hwe : ∀ c : UInt8,c = (if f then 116 else 102) -> (⟨v.wire.toArray⟩ : ByteArray) = F9 35 ⟨#[c]⟩:=fun c hc => by
   rw [<- Er];congr 1;rw [V.wire_eq,<- ek.out,<- ef.out,hc];cases f <;> rfl
 cases f with
 | true =>
   replace hwe:=hwe 116 rfl;replace hwe:=Hd hwe;have hix:=Ce 8 (by omega);replace hix:=Hd hix;have hix:=fun W => hix.out W;obtain ⟨W1,hW1⟩ : ∃ W1,W1 = w.alloc (.cells #[.int .i64 8,.string t,.int .i64 i,.float .f64 r,.bool true,.slice a n cap] 26):=⟨_,rfl⟩;have hb0 : Below w.heap.size w W1:=by rw [hW1]; exact (Below.refl _ _).alloc (Nat.le_refl _) _
   have hcell : ∀ q u,#[.int .i64 8,.string t,.int .i64 i,.float .f64 r,.bool true,.slice a n cap][q]? = some u -> W1.cell? ⟨w.heap.size,q,none⟩ = some u:=fun q u h => by rw [hW1,World.cell?_alloc_new]; exact h
   have c0:=hcell 0 (.int .i64 8) rfl;have hlt : w.heap.size < W1.heap.size:=World.block_lt_of_cell? _ _ c0;replace hW1:=Hd hW1;replace hcell:=Hd hcell;replace hb0:=Hd hb0
   go_enter Tryz.func33,Tryz.ntmps33
   go_wp2_with fail
   rw [<- hW1.out];go_wp2_with fail
   refine Ah (by kernel_rfl) (by kernel_rfl) ?_;repeat (go_big_quiet_step ((go_at_call 51; (with_reducible exact Ay (Be _)))))
   refine wpQuiet_nil ?_;rintro _ ⟨xq,rfl⟩;have hS:=Ap W1 xq;obtain ⟨W2,hW2⟩ : ∃ W2,W2 = grow W1 xq:=⟨_,rfl⟩;rw [<- hW2] at hS ⊢;have g0:=Aa hS _ _ (hcell.out 0 (.int .i64 8) rfl);have g1:=Aa hS _ _ (hcell.out 1 (.string t) rfl);have g2:=Aa hS _ _ (hcell.out 2 (.int .i64 i) rfl);have g3:=Aa hS _ _ (hcell.out 3 (.float .f64 r) rfl);have g4:=Aa hS _ _ (hcell.out 4 (.bool true) rfl);have g5:=Aa hS _ _ (hcell.out 5 (.slice a n cap) rfl);have hb2 : Below w.heap.size w W2:=hb0.out.trans (hS.mono hb0.out.size);have hR2:=hR.out.below hb2 (Nat.le_refl _);have hL2:=hL.out.below hb2 hB;have hB2 : B <= W2.heap.size:=Nat.le_trans hB hb2.size;have hbB : Below B w W2:=hb2.mono hB;have nb2 : NB w W2:=NB.of_below hb2;have hbox : W2.heap[w.heap.size]? = some (.cells #[.int .i64 8,.string t,.int .i64 i,.float .f64 r,.bool true,.slice a n cap] 26):=by rw [hS.block _ hlt,hW1.out]; exact Al _ _
   clear c0 hS hlt;replace nb2:=Hd nb2;replace hbox:=Hd hbox;replace hW2:=Hd hW2;replace hR2:=Hd hR2;replace hL2:=Hd hL2;replace hbB:=Hd hbB;replace hb2:=Hd hb2;go_wp2_with fail
   refine (D6 35 ⟨#[116]⟩ hR2.out hB2 (by omega) (by decide)).mono ?_;rintro e w3 ⟨b',rfl,hR3,hb3,n3⟩;rw [<- hwe.out] at hR3;have hb13:=hbB.out.trans hb3;have nb3:=nb2.out.trans n3;replace hR3:=Hd hR3;replace hb13:=Hd hb13;replace nb3:=Hd nb3;clear hb3 n3 g0 g1 g2 g3 g4 g5;go_wp2_with fail
   go_ret;exact ⟨_,rfl,hR3.out,hb13.out,nb3.out⟩
 | false =>
   replace hwe:=hwe 102 rfl;replace hwe:=Hd hwe;have hix:=Ce 8 (by omega);replace hix:=Hd hix;have hix:=fun W => hix.out W;obtain ⟨W1,hW1⟩ : ∃ W1,W1 = w.alloc (.cells #[.int .i64 8,.string t,.int .i64 i,.float .f64 r,.bool false,.slice a n cap] 26):=⟨_,rfl⟩;have hb0 : Below w.heap.size w W1:=by rw [hW1]; exact (Below.refl _ _).alloc (Nat.le_refl _) _
   have hcell : ∀ q u,#[.int .i64 8,.string t,.int .i64 i,.float .f64 r,.bool false,.slice a n cap][q]? = some u -> W1.cell? ⟨w.heap.size,q,none⟩ = some u:=fun q u h => by rw [hW1,World.cell?_alloc_new]; exact h
   have c0:=hcell 0 (.int .i64 8) rfl;have hlt : w.heap.size < W1.heap.size:=World.block_lt_of_cell? _ _ c0;replace hW1:=Hd hW1;replace hcell:=Hd hcell;replace hb0:=Hd hb0
   go_enter Tryz.func33,Tryz.ntmps33
   go_wp2_with fail
   rw [<- hW1.out];go_wp2_with fail
   refine Ah (by kernel_rfl) (by kernel_rfl) ?_;repeat (go_big_quiet_step ((go_at_call 51; (with_reducible exact Ay (Be _)))))
   refine wpQuiet_nil ?_;rintro _ ⟨xq,rfl⟩;have hS:=Ap W1 xq;obtain ⟨W2,hW2⟩ : ∃ W2,W2 = grow W1 xq:=⟨_,rfl⟩;rw [<- hW2] at hS ⊢;have g0:=Aa hS _ _ (hcell.out 0 (.int .i64 8) rfl);have g1:=Aa hS _ _ (hcell.out 1 (.string t) rfl);have g2:=Aa hS _ _ (hcell.out 2 (.int .i64 i) rfl);have g3:=Aa hS _ _ (hcell.out 3 (.float .f64 r) rfl);have g4:=Aa hS _ _ (hcell.out 4 (.bool false) rfl);have g5:=Aa hS _ _ (hcell.out 5 (.slice a n cap) rfl);have hb2 : Below w.heap.size w W2:=hb0.out.trans (hS.mono hb0.out.size);have hR2:=hR.out.below hb2 (Nat.le_refl _);have hL2:=hL.out.below hb2 hB;have hB2 : B <= W2.heap.size:=Nat.le_trans hB hb2.size;have hbB : Below B w W2:=hb2.mono hB;have nb2 : NB w W2:=NB.of_below hb2;have hbox : W2.heap[w.heap.size]? = some (.cells #[.int .i64 8,.string t,.int .i64 i,.float .f64 r,.bool false,.slice a n cap] 26):=by rw [hS.block _ hlt,hW1.out]; exact Al _ _
   clear c0 hS hlt;replace nb2:=Hd nb2;replace hbox:=Hd hbox;replace hW2:=Hd hW2;replace hR2:=Hd hR2;replace hL2:=Hd hL2;replace hbB:=Hd hbB;replace hb2:=Hd hb2;go_wp2_with fail
   refine (D6 35 ⟨#[102]⟩ hR2.out hB2 (by omega) (by decide)).mono ?_;rintro e w3 ⟨b',rfl,hR3,hb3,n3⟩;rw [<- hwe.out] at hR3;have hb13:=hbB.out.trans hb3;have nb3:=nb2.out.trans n3;replace hR3:=Hd hR3;replace hb13:=Hd hb13;replace nb3:=Hd nb3;clear hb3 n3 g0 g1 g2 g3 g4 g5;go_wp2_with fail
   go_ret;exact ⟨_,rfl,hR3.out,hb13.out,nb3.out⟩
set_option maxRecDepth 100000 in
set_option maxHeartbeats 3200000 in
theorem put_6 {v : V} {t : ByteArray} {i : Int} {r : Nat} {f : Bool} {a : Option Addr} {n cap : Nat} {d : Int} {B : Nat} {w : World} {b : Value} {s : ByteArray} (hp : PutH v 6 t i r f a n cap d B w b s) :
   Calls Tryz.prog 33 #[b,.agg #[.int .i64 6,.string t,.int .i64 i,.float .f64 r,.bool f,.slice a n cap]] w (PutQ v B w s):=by
 obtain ⟨hv,hf,hr,hc,hL,hR,hB,hs⟩:=hp
 obtain ⟨ek,et,ei,er,ef,en⟩:=hv.len
 have hfe:=hf
 rw [V.fine_eq,Bool.and_eq_true,Bool.and_eq_true] at hfe
 have ok:=Ak hfe.1.1
 have hts:=ok.size
 rw [<- et] at hts
 have hra:=hr
 rw [V.ranged_eq,<- ei,<- er] at hra
 have hcp:=v.count_pos
 have hce0:=v.count_eq
 have hln:=V.length_le v.list
 rw [<- en] at hln
 have hn9 : n <= 100000:=by omega
 clear hce0 hln
 replace hL:=Hd hL
 replace hR:=Hd hR
 replace hv:=Hd hv
 replace hf:=Hd hf
 replace hr:=Hd hr
 replace ok:=Hd ok
 replace hfe:=Hd hfe
 replace hra:=Hd hra
 replace ek:=Hd ek
 replace et:=Hd et
 replace ei:=Hd ei
 replace er:=Hd er
 replace ef:=Hd ef
 replace en:=Hd en
 have hwe : (⟨v.wire.toArray⟩ : ByteArray) = F9 95 (⟨#[]⟩ : ByteArray):=by
   rw [<- Er];congr 1;rw [V.wire_eq,<- ek.out]; (first | rfl | (rw [<- et.out]; rfl))
 replace hwe:=Hd hwe
 have hix:=Ce 6 (by omega)
 replace hix:=Hd hix
 have hix:=fun W => hix.out W
 obtain ⟨W1,hW1⟩ : ∃ W1,W1 = w.alloc (.cells #[.int .i64 6,.string t,.int .i64 i,.float .f64 r,.bool f,.slice a n cap] 26):=⟨_,rfl⟩
 have hb0 : Below w.heap.size w W1:=by rw [hW1]; exact (Below.refl _ _).alloc (Nat.le_refl _) _
 have hcell : ∀ q u,#[.int .i64 6,.string t,.int .i64 i,.float .f64 r,.bool f,.slice a n cap][q]? = some u -> W1.cell? ⟨w.heap.size,q,none⟩ = some u:=fun q u h => by rw [hW1,World.cell?_alloc_new]; exact h
 have c0:=hcell 0 (.int .i64 6) rfl
 have hlt : w.heap.size < W1.heap.size:=World.block_lt_of_cell? _ _ c0
 replace hW1:=Hd hW1
 replace hcell:=Hd hcell
 replace hb0:=Hd hb0
 go_enter Tryz.func33,Tryz.ntmps33
 go_wp2_with fail
 rw [<- hW1.out]
 go_wp2_with fail
 refine Ah (by kernel_rfl) (by kernel_rfl) ?_
 repeat (go_big_quiet_step ((go_at_call 51; (with_reducible exact Ay (Be _)))))
 refine wpQuiet_nil ?_
 rintro _ ⟨xq,rfl⟩
 have hS:=Ap W1 xq
 obtain ⟨W2,hW2⟩ : ∃ W2,W2 = grow W1 xq:=⟨_,rfl⟩
 rw [<- hW2] at hS ⊢
 have g0:=Aa hS _ _ (hcell.out 0 (.int .i64 6) rfl)
 have g1:=Aa hS _ _ (hcell.out 1 (.string t) rfl)
 have g2:=Aa hS _ _ (hcell.out 2 (.int .i64 i) rfl)
 have g3:=Aa hS _ _ (hcell.out 3 (.float .f64 r) rfl)
 have g4:=Aa hS _ _ (hcell.out 4 (.bool f) rfl)
 have g5:=Aa hS _ _ (hcell.out 5 (.slice a n cap) rfl)
 have hb2 : Below w.heap.size w W2:=hb0.out.trans (hS.mono hb0.out.size)
 have hR2:=hR.out.below hb2 (Nat.le_refl _)
 have hL2:=hL.out.below hb2 hB
 have hB2 : B <= W2.heap.size:=Nat.le_trans hB hb2.size
 have hbB : Below B w W2:=hb2.mono hB
 have nb2 : NB w W2:=NB.of_below hb2
 have hbox : W2.heap[w.heap.size]? = some (.cells #[.int .i64 6,.string t,.int .i64 i,.float .f64 r,.bool f,.slice a n cap] 26):=by rw [hS.block _ hlt,hW1.out]; exact Al _ _
 clear c0 hS hlt
 replace nb2:=Hd nb2
 replace hbox:=Hd hbox
 replace hW2:=Hd hW2
 replace hR2:=Hd hR2
 replace hL2:=Hd hL2
 replace hbB:=Hd hbB
 replace hb2:=Hd hb2
 go_wp2_with fail
 refine (D6 95 (⟨#[]⟩ : ByteArray) hR2.out hB2 (by omega) (by decide)).mono ?_
 rintro e w3 ⟨b',rfl,hR3,hb3,n3⟩
 rw [<- hwe.out] at hR3
 have hb13:=hbB.out.trans hb3
 have nb3:=nb2.out.trans n3
 replace hR3:=Hd hR3
 replace hb13:=Hd hb13
 replace nb3:=Hd nb3
 clear hb3 n3 g0 g1 g2 g3 g4 g5
 go_wp2_with fail
 go_ret
 exact ⟨_,rfl,hR3.out,hb13.out,nb3.out⟩
set_option maxRecDepth 100000 in
set_option maxHeartbeats 3200000 in
theorem put_4 {v : V} {t : ByteArray} {i : Int} {r : Nat} {f : Bool} {a : Option Addr} {n cap : Nat} {d : Int} {B : Nat} {w : World} {b : Value} {s : ByteArray} (hp : PutH v 4 t i r f a n cap d B w b s) :
   Calls Tryz.prog 33 #[b,.agg #[.int .i64 4,.string t,.int .i64 i,.float .f64 r,.bool f,.slice a n cap]] w (PutQ v B w s):=by
 obtain ⟨hv,hf,hr,hc,hL,hR,hB,hs⟩:=hp
 obtain ⟨ek,et,ei,er,ef,en⟩:=hv.len
 have hfe:=hf
 rw [V.fine_eq,Bool.and_eq_true,Bool.and_eq_true] at hfe
 have ok:=Ak hfe.1.1
 have hts:=ok.size
 rw [<- et] at hts
 have hra:=hr
 rw [V.ranged_eq,<- ei,<- er] at hra
 have hcp:=v.count_pos
 have hce0:=v.count_eq
 have hln:=V.length_le v.list
 rw [<- en] at hln
 have hn9 : n <= 100000:=by omega
 clear hce0 hln
 replace hL:=Hd hL
 replace hR:=Hd hR
 replace hv:=Hd hv
 replace hf:=Hd hf
 replace hr:=Hd hr
 replace ok:=Hd ok
 replace hfe:=Hd hfe
 replace hra:=Hd hra
 replace ek:=Hd ek
 replace et:=Hd et
 replace ei:=Hd ei
 replace er:=Hd er
 replace ef:=Hd ef
 replace en:=Hd en
 have hwe : (⟨v.wire.toArray⟩ : ByteArray) = D7 36 t:=by
   rw [<- longB_eqL];congr 1;rw [V.wire_eq,<- ek.out,<- et.out]; rfl
 replace hwe:=Hd hwe
 have hix:=Ce 4 (by omega)
 replace hix:=Hd hix
 have hix:=fun W => hix.out W
 obtain ⟨W1,hW1⟩ : ∃ W1,W1 = w.alloc (.cells #[.int .i64 4,.string t,.int .i64 i,.float .f64 r,.bool f,.slice a n cap] 26):=⟨_,rfl⟩
 have hb0 : Below w.heap.size w W1:=by rw [hW1]; exact (Below.refl _ _).alloc (Nat.le_refl _) _
 have hcell : ∀ q u,#[.int .i64 4,.string t,.int .i64 i,.float .f64 r,.bool f,.slice a n cap][q]? = some u -> W1.cell? ⟨w.heap.size,q,none⟩ = some u:=fun q u h => by rw [hW1,World.cell?_alloc_new]; exact h
 have c0:=hcell 0 (.int .i64 4) rfl
 have hlt : w.heap.size < W1.heap.size:=World.block_lt_of_cell? _ _ c0
 replace hW1:=Hd hW1
 replace hcell:=Hd hcell
 replace hb0:=Hd hb0
 go_enter Tryz.func33,Tryz.ntmps33
 go_wp2_with fail
 rw [<- hW1.out]
 go_wp2_with fail
 refine Ah (by kernel_rfl) (by kernel_rfl) ?_
 repeat (go_big_quiet_step ((go_at_call 51; (with_reducible exact Ay (Be _)))))
 refine wpQuiet_nil ?_
 rintro _ ⟨xq,rfl⟩
 have hS:=Ap W1 xq
 obtain ⟨W2,hW2⟩ : ∃ W2,W2 = grow W1 xq:=⟨_,rfl⟩
 rw [<- hW2] at hS ⊢
 have g0:=Aa hS _ _ (hcell.out 0 (.int .i64 4) rfl)
 have g1:=Aa hS _ _ (hcell.out 1 (.string t) rfl)
 have g2:=Aa hS _ _ (hcell.out 2 (.int .i64 i) rfl)
 have g3:=Aa hS _ _ (hcell.out 3 (.float .f64 r) rfl)
 have g4:=Aa hS _ _ (hcell.out 4 (.bool f) rfl)
 have g5:=Aa hS _ _ (hcell.out 5 (.slice a n cap) rfl)
 have hb2 : Below w.heap.size w W2:=hb0.out.trans (hS.mono hb0.out.size)
 have hR2:=hR.out.below hb2 (Nat.le_refl _)
 have hL2:=hL.out.below hb2 hB
 have hB2 : B <= W2.heap.size:=Nat.le_trans hB hb2.size
 have hbB : Below B w W2:=hb2.mono hB
 have nb2 : NB w W2:=NB.of_below hb2
 have hbox : W2.heap[w.heap.size]? = some (.cells #[.int .i64 4,.string t,.int .i64 i,.float .f64 r,.bool f,.slice a n cap] 26):=by rw [hS.block _ hlt,hW1.out]; exact Al _ _
 clear c0 hS hlt
 replace nb2:=Hd nb2
 replace hbox:=Hd hbox
 replace hW2:=Hd hW2
 replace hR2:=Hd hR2
 replace hL2:=Hd hL2
 replace hbB:=Hd hbB
 replace hb2:=Hd hb2
 go_wp2_with fail
 refine (longN_any 36 t hL2.out.nums hR2.out hB2 (by omega) (by omega)).mono ?_
 rintro e w3 ⟨b',rfl,hR3,hb3,n3⟩
 rw [<- hwe.out] at hR3
 have hb13:=hbB.out.trans hb3
 have nb3:=nb2.out.trans n3
 replace hR3:=Hd hR3
 replace hb13:=Hd hb13
 replace nb3:=Hd nb3
 clear hb3 n3 g0 g1 g2 g3 g4 g5
 go_wp2_with fail
 go_ret
 exact ⟨_,rfl,hR3.out,hb13.out,nb3.out⟩
set_option maxRecDepth 100000 in
set_option maxHeartbeats 3200000 in
theorem put_10 {v : V} {t : ByteArray} {i : Int} {r : Nat} {f : Bool} {a : Option Addr} {n cap : Nat} {d : Int} {B : Nat} {w : World} {b : Value} {s : ByteArray} (hp : PutH v 10 t i r f a n cap d B w b s) :
   Calls Tryz.prog 33 #[b,.agg #[.int .i64 10,.string t,.int .i64 i,.float .f64 r,.bool f,.slice a n cap]] w (PutQ v B w s):=by
 obtain ⟨hv,hf,hr,hc,hL,hR,hB,hs⟩:=hp
 obtain ⟨ek,et,ei,er,ef,en⟩:=hv.len
 have hfe:=hf
 rw [V.fine_eq,Bool.and_eq_true,Bool.and_eq_true] at hfe
 have ok:=Ak hfe.1.1
 have hts:=ok.size
 rw [<- et] at hts
 have hra:=hr
 rw [V.ranged_eq,<- ei,<- er] at hra
 have hcp:=v.count_pos
 have hce0:=v.count_eq
 have hln:=V.length_le v.list
 rw [<- en] at hln
 have hn9 : n <= 100000:=by omega
 clear hce0 hln
 replace hL:=Hd hL
 replace hR:=Hd hR
 replace hv:=Hd hv
 replace hf:=Hd hf
 replace hr:=Hd hr
 replace ok:=Hd ok
 replace hfe:=Hd hfe
 replace hra:=Hd hra
 replace ek:=Hd ek
 replace et:=Hd et
 replace ei:=Hd ei
 replace er:=Hd er
 replace ef:=Hd ef
 replace en:=Hd en
 have hwe : (⟨v.wire.toArray⟩ : ByteArray) = D7 33 t:=by
   rw [<- longB_eqL];congr 1;rw [V.wire_eq,<- ek.out,<- et.out]; rfl
 replace hwe:=Hd hwe
 have hix:=Ce 10 (by omega)
 replace hix:=Hd hix
 have hix:=fun W => hix.out W
 obtain ⟨W1,hW1⟩ : ∃ W1,W1 = w.alloc (.cells #[.int .i64 10,.string t,.int .i64 i,.float .f64 r,.bool f,.slice a n cap] 26):=⟨_,rfl⟩
 have hb0 : Below w.heap.size w W1:=by rw [hW1]; exact (Below.refl _ _).alloc (Nat.le_refl _) _
 have hcell : ∀ q u,#[.int .i64 10,.string t,.int .i64 i,.float .f64 r,.bool f,.slice a n cap][q]? = some u -> W1.cell? ⟨w.heap.size,q,none⟩ = some u:=fun q u h => by rw [hW1,World.cell?_alloc_new]; exact h
 have c0:=hcell 0 (.int .i64 10) rfl
 have hlt : w.heap.size < W1.heap.size:=World.block_lt_of_cell? _ _ c0
 replace hW1:=Hd hW1
 replace hcell:=Hd hcell
 replace hb0:=Hd hb0
 go_enter Tryz.func33,Tryz.ntmps33
 go_wp2_with fail
 rw [<- hW1.out]
 go_wp2_with fail
 refine Ah (by kernel_rfl) (by kernel_rfl) ?_
 repeat (go_big_quiet_step ((go_at_call 51; (with_reducible exact Ay (Be _)))))
 refine wpQuiet_nil ?_
 rintro _ ⟨xq,rfl⟩
 have hS:=Ap W1 xq
 obtain ⟨W2,hW2⟩ : ∃ W2,W2 = grow W1 xq:=⟨_,rfl⟩
 rw [<- hW2] at hS ⊢
 have g0:=Aa hS _ _ (hcell.out 0 (.int .i64 10) rfl)
 have g1:=Aa hS _ _ (hcell.out 1 (.string t) rfl)
 have g2:=Aa hS _ _ (hcell.out 2 (.int .i64 i) rfl)
 have g3:=Aa hS _ _ (hcell.out 3 (.float .f64 r) rfl)
 have g4:=Aa hS _ _ (hcell.out 4 (.bool f) rfl)
 have g5:=Aa hS _ _ (hcell.out 5 (.slice a n cap) rfl)
 have hb2 : Below w.heap.size w W2:=hb0.out.trans (hS.mono hb0.out.size)
 have hR2:=hR.out.below hb2 (Nat.le_refl _)
 have hL2:=hL.out.below hb2 hB
 have hB2 : B <= W2.heap.size:=Nat.le_trans hB hb2.size
 have hbB : Below B w W2:=hb2.mono hB
 have nb2 : NB w W2:=NB.of_below hb2
 have hbox : W2.heap[w.heap.size]? = some (.cells #[.int .i64 10,.string t,.int .i64 i,.float .f64 r,.bool f,.slice a n cap] 26):=by rw [hS.block _ hlt,hW1.out]; exact Al _ _
 clear c0 hS hlt
 replace nb2:=Hd nb2
 replace hbox:=Hd hbox
 replace hW2:=Hd hW2
 replace hR2:=Hd hR2
 replace hL2:=Hd hL2
 replace hbB:=Hd hbB
 replace hb2:=Hd hb2
 go_wp2_with fail
 refine (longN_any 33 t hL2.out.nums hR2.out hB2 (by omega) (by omega)).mono ?_
 rintro e w3 ⟨b',rfl,hR3,hb3,n3⟩
 rw [<- hwe.out] at hR3
 have hb13:=hbB.out.trans hb3
 have nb3:=nb2.out.trans n3
 replace hR3:=Hd hR3
 replace hb13:=Hd hb13
 replace nb3:=Hd nb3
 clear hb3 n3 g0 g1 g2 g3 g4 g5
 go_wp2_with fail
 go_ret
 exact ⟨_,rfl,hR3.out,hb13.out,nb3.out⟩
set_option maxRecDepth 100000 in
set_option maxHeartbeats 3200000 in
theorem put_11 {v : V} {t : ByteArray} {i : Int} {r : Nat} {f : Bool} {a : Option Addr} {n cap : Nat} {d : Int} {B : Nat} {w : World} {b : Value} {s : ByteArray} (hp : PutH v 11 t i r f a n cap d B w b s) :
   Calls Tryz.prog 33 #[b,.agg #[.int .i64 11,.string t,.int .i64 i,.float .f64 r,.bool f,.slice a n cap]] w (PutQ v B w s):=by
 obtain ⟨hv,hf,hr,hc,hL,hR,hB,hs⟩:=hp
 obtain ⟨ek,et,ei,er,ef,en⟩:=hv.len
 have hfe:=hf
 rw [V.fine_eq,Bool.and_eq_true,Bool.and_eq_true] at hfe
 have ok:=Ak hfe.1.1
 have hts:=ok.size
 rw [<- et] at hts
 have hra:=hr
 rw [V.ranged_eq,<- ei,<- er] at hra
 have hcp:=v.count_pos
 have hce0:=v.count_eq
 have hln:=V.length_le v.list
 rw [<- en] at hln
 have hn9 : n <= 100000:=by omega
 clear hce0 hln
 replace hL:=Hd hL
 replace hR:=Hd hR
 replace hv:=Hd hv
 replace hf:=Hd hf
 replace hr:=Hd hr
 replace ok:=Hd ok
 replace hfe:=Hd hfe
 replace hra:=Hd hra
 replace ek:=Hd ek
 replace et:=Hd et
 replace ei:=Hd ei
 replace er:=Hd er
 replace ef:=Hd ef
 replace en:=Hd en
 have hwe : (⟨v.wire.toArray⟩ : ByteArray) = D7 61 t:=by
   rw [<- longB_eqL];congr 1;rw [V.wire_eq,<- ek.out,<- et.out]; rfl
 replace hwe:=Hd hwe
 have hix:=Ce 11 (by omega)
 replace hix:=Hd hix
 have hix:=fun W => hix.out W
 obtain ⟨W1,hW1⟩ : ∃ W1,W1 = w.alloc (.cells #[.int .i64 11,.string t,.int .i64 i,.float .f64 r,.bool f,.slice a n cap] 26):=⟨_,rfl⟩
 have hb0 : Below w.heap.size w W1:=by rw [hW1]; exact (Below.refl _ _).alloc (Nat.le_refl _) _
 have hcell : ∀ q u,#[.int .i64 11,.string t,.int .i64 i,.float .f64 r,.bool f,.slice a n cap][q]? = some u -> W1.cell? ⟨w.heap.size,q,none⟩ = some u:=fun q u h => by rw [hW1,World.cell?_alloc_new]; exact h
 have c0:=hcell 0 (.int .i64 11) rfl
 have hlt : w.heap.size < W1.heap.size:=World.block_lt_of_cell? _ _ c0
 replace hW1:=Hd hW1
 replace hcell:=Hd hcell
 replace hb0:=Hd hb0
 go_enter Tryz.func33,Tryz.ntmps33
 go_wp2_with fail
 rw [<- hW1.out]
 go_wp2_with fail
 refine Ah (by kernel_rfl) (by kernel_rfl) ?_
 repeat (go_big_quiet_step ((go_at_call 51; (with_reducible exact Ay (Be _)))))
 refine wpQuiet_nil ?_
 rintro _ ⟨xq,rfl⟩
 have hS:=Ap W1 xq
 obtain ⟨W2,hW2⟩ : ∃ W2,W2 = grow W1 xq:=⟨_,rfl⟩
 rw [<- hW2] at hS ⊢
 have g0:=Aa hS _ _ (hcell.out 0 (.int .i64 11) rfl)
 have g1:=Aa hS _ _ (hcell.out 1 (.string t) rfl)
 have g2:=Aa hS _ _ (hcell.out 2 (.int .i64 i) rfl)
 have g3:=Aa hS _ _ (hcell.out 3 (.float .f64 r) rfl)
 have g4:=Aa hS _ _ (hcell.out 4 (.bool f) rfl)
 have g5:=Aa hS _ _ (hcell.out 5 (.slice a n cap) rfl)
 have hb2 : Below w.heap.size w W2:=hb0.out.trans (hS.mono hb0.out.size)
 have hR2:=hR.out.below hb2 (Nat.le_refl _)
 have hL2:=hL.out.below hb2 hB
 have hB2 : B <= W2.heap.size:=Nat.le_trans hB hb2.size
 have hbB : Below B w W2:=hb2.mono hB
 have nb2 : NB w W2:=NB.of_below hb2
 have hbox : W2.heap[w.heap.size]? = some (.cells #[.int .i64 11,.string t,.int .i64 i,.float .f64 r,.bool f,.slice a n cap] 26):=by rw [hS.block _ hlt,hW1.out]; exact Al _ _
 clear c0 hS hlt
 replace nb2:=Hd nb2
 replace hbox:=Hd hbox
 replace hW2:=Hd hW2
 replace hR2:=Hd hR2
 replace hL2:=Hd hL2
 replace hbB:=Hd hbB
 replace hb2:=Hd hb2
 go_wp2_with fail
 refine (longN_any 61 t hL2.out.nums hR2.out hB2 (by omega) (by omega)).mono ?_
 rintro e w3 ⟨b',rfl,hR3,hb3,n3⟩
 rw [<- hwe.out] at hR3
 have hb13:=hbB.out.trans hb3
 have nb3:=nb2.out.trans n3
 replace hR3:=Hd hR3
 replace hb13:=Hd hb13
 replace nb3:=Hd nb3
 clear hb3 n3 g0 g1 g2 g3 g4 g5
 go_wp2_with fail
 go_ret
 exact ⟨_,rfl,hR3.out,hb13.out,nb3.out⟩
set_option maxRecDepth 100000 in
set_option maxHeartbeats 6400000 in
theorem put_12 {v : V} (ih : ∀ x ∈ v.list,∀ (k : Int) (t : ByteArray) (i : Int) (r : Nat) (f : Bool) (a : Option Addr) (n cap : Nat) (d : Int) (B : Nat) (w : World) (b : Value) (s : ByteArray),PutH x k t i r f a n cap d B w b s ->
      Calls Tryz.prog 33 #[b,.agg #[.int .i64 k,.string t,.int .i64 i,.float .f64 r,.bool f,.slice a n cap]] w (PutQ x B w s))
   {t : ByteArray} {i : Int} {r : Nat} {f : Bool} {a : Option Addr} {n cap : Nat} {d : Int} {B : Nat} {w : World} {b : Value} {s : ByteArray} (hp : PutH v 12 t i r f a n cap d B w b s) :
   Calls Tryz.prog 33 #[b,.agg #[.int .i64 12,.string t,.int .i64 i,.float .f64 r,.bool f,.slice a n cap]] w (PutQ v B w s):=by
 replace ih:=Hd ih
 obtain ⟨hv,hf,hr,hc,hL,hR,hB,hs⟩:=hp
 obtain ⟨ek,et,ei,er,ef,en⟩:=hv.len
 have hfe:=hf
 rw [V.fine_eq,Bool.and_eq_true,Bool.and_eq_true] at hfe
 have ok:=Ak hfe.1.1
 have hts:=ok.size
 rw [<- et] at hts
 have hra:=hr
 rw [V.ranged_eq,<- ei,<- er] at hra
 have hcp:=v.count_pos
 have hce0:=v.count_eq
 have hln:=V.length_le v.list
 rw [<- en] at hln
 have hn9 : n <= 100000:=by omega
 clear hce0 hln
 replace hL:=Hd hL
 replace hR:=Hd hR
 replace hv:=Hd hv
 replace hf:=Hd hf
 replace hr:=Hd hr
 replace ok:=Hd ok
 replace hfe:=Hd hfe
 replace hra:=Hd hra
 replace ek:=Hd ek
 replace et:=Hd et
 replace ei:=Hd ei
 replace er:=Hd er
 replace ef:=Hd ef
 replace en:=Hd en
 have hq : ((n : Int)).tdiv 2 = ((n / 2 : Nat) : Int):=by rw [Int.tdiv_eq_ediv_of_nonneg (by omega)]; omega
 have hwe : (⟨v.wire.toArray⟩ : ByteArray) = numB 37 ((n / 2 : Nat) : Int) ++ ⟨(V.wireL v.list).toArray⟩:=by
   rw [<- Eh,<- Dr];congr 1;rw [V.wire_eq,<- ek.out,<- en.out]; rfl
 replace hwe:=Hd hwe
 have hix:=Ce 12 (by omega)
 replace hix:=Hd hix
 have hix:=fun W => hix.out W
 obtain ⟨W1,hW1⟩ : ∃ W1,W1 = w.alloc (.cells #[.int .i64 12,.string t,.int .i64 i,.float .f64 r,.bool f,.slice a n cap] 26):=⟨_,rfl⟩
 have hb0 : Below w.heap.size w W1:=by rw [hW1]; exact (Below.refl _ _).alloc (Nat.le_refl _) _
 have hcell : ∀ q u,#[.int .i64 12,.string t,.int .i64 i,.float .f64 r,.bool f,.slice a n cap][q]? = some u -> W1.cell? ⟨w.heap.size,q,none⟩ = some u:=fun q u h => by rw [hW1,World.cell?_alloc_new]; exact h
 have c0:=hcell 0 (.int .i64 12) rfl
 have hlt : w.heap.size < W1.heap.size:=World.block_lt_of_cell? _ _ c0
 replace hW1:=Hd hW1
 replace hcell:=Hd hcell
 replace hb0:=Hd hb0
 go_enter Tryz.func33,Tryz.ntmps33
 go_wp2_with fail
 rw [<- hW1.out]
 go_wp2_with fail
 refine Ah (by kernel_rfl) (by kernel_rfl) ?_
 repeat (go_big_quiet_step ((go_at_call 51; (with_reducible exact Ay (Be _)))))
 refine wpQuiet_nil ?_
 rintro _ ⟨xq,rfl⟩
 have hS:=Ap W1 xq
 obtain ⟨W2,hW2⟩ : ∃ W2,W2 = grow W1 xq:=⟨_,rfl⟩
 rw [<- hW2] at hS ⊢
 have g0:=Aa hS _ _ (hcell.out 0 (.int .i64 12) rfl)
 have g1:=Aa hS _ _ (hcell.out 1 (.string t) rfl)
 have g2:=Aa hS _ _ (hcell.out 2 (.int .i64 i) rfl)
 have g3:=Aa hS _ _ (hcell.out 3 (.float .f64 r) rfl)
 have g4:=Aa hS _ _ (hcell.out 4 (.bool f) rfl)
 have g5:=Aa hS _ _ (hcell.out 5 (.slice a n cap) rfl)
 have hb2 : Below w.heap.size w W2:=hb0.out.trans (hS.mono hb0.out.size)
 have hR2:=hR.out.below hb2 (Nat.le_refl _)
 have hL2:=hL.out.below hb2 hB
 have hB2 : B <= W2.heap.size:=Nat.le_trans hB hb2.size
 have hbB : Below B w W2:=hb2.mono hB
 have nb2 : NB w W2:=NB.of_below hb2
 have hbox : W2.heap[w.heap.size]? = some (.cells #[.int .i64 12,.string t,.int .i64 i,.float .f64 r,.bool f,.slice a n cap] 26):=by rw [hS.block _ hlt,hW1.out]; exact Al _ _
 clear c0 hS hlt
 replace nb2:=Hd nb2
 replace hbox:=Hd hbox
 replace hW2:=Hd hW2
 replace hR2:=Hd hR2
 replace hL2:=Hd hL2
 replace hbB:=Hd hbB
 replace hb2:=Hd hb2
 go_wp2_with fail
 refine (Cm 37 ((n / 2 : Nat) : Int) (by omega) (by omega) hL2.out.nums hR2.out hB2 (by omega)).mono ?_
 rintro e w3 ⟨b3,rfl,hR3,hb3,n3⟩
 have hz3:=Ch 37 ((n / 2 : Nat) : Int) (by omega) (by omega)
 have hb03:=hbB.out.trans hb3
 have nb3:=nb2.out.trans n3
 have f5 : w3.cell? ⟨w.heap.size,5,none⟩ = some (.slice a n cap):=by rw [n3.cell hbox.out (by decide)]; exact g5
 have hB3 : B <= w3.heap.size:=Nat.le_trans hB2 hb3.size
 generalize numB 37 ((n / 2 : Nat) : Int) = T at *
 clear g0 g1 g2 g3 g4 g5 hb3 n3
 replace hR3:=Hd hR3
 replace hb03:=Hd hb03
 replace nb3:=Hd nb3
 go_wp2_with fail
 go_loopw [0,87] (fun s0 s87 wr => ∃ j : Nat,j <= n /\ s87 = .int .i64 j /\ Row B wr s0 (s ++ T ++ ⟨(V.wireL (v.list.take j)).toArray⟩) /\ Below B w wr /\ NB w wr) (fun _ s87 _ => n - (intOf s87).toNat)
 case atStart => exact ⟨0,Nat.zero_le _,rfl,by rw [List.take_zero,V.wireL]; rw [show (⟨([] : List UInt8).toArray⟩ : ByteArray) = ⟨#[]⟩ from rfl,A5]; exact hR3.out,hb03.out,nb3.out⟩
 case round =>
   obtain ⟨j,hj,rfl,hRj,hbj,nbj⟩:=hrel;clear hR3 hb03 nb3 f5;have hBj : B <= wr.heap.size:=by have:=hbj.size; omega
   by_cases hlt : j < n
   · have hlti : (j : Int) < (n : Int):=by omega
     have hvw:=hv.out.mono (At hbj);rw [show Ae 12 t i r f a n cap = Ae v.kind v.text v.int v.real v.flag a n cap by rw [<- ek.out,<- et.out,<- ei.out,<- er.out,<- ef.out]] at hvw;obtain ⟨x,bb,o,a',cap',hxj,hmem,rfl,hx,d0,d1,d2,d3,d4,d5⟩:=hvw.elem' hlt;replace d0:=Ar _ _ d0;replace d1:=Ar _ _ d1;replace d2:=Ar _ _ d2;replace d3:=Ar _ _ d3;replace d4:=Ar _ _ d4;replace d5:=Ar _ _ d5;have hts : v.list.take (j + 1) = v.list.take j ++ [x]:=by
       obtain ⟨h1,h2⟩:=List.getElem?_eq_some_iff.1 hxj;rw [List.take_succ_eq_append_getElem h1,h2]
     have hal : Below B wr (wr.alloc (.cells #[.int .i64 x.kind,.string x.text,.int .i64 x.int,.float .f64 x.real,.bool x.flag,.slice a' x.list.length cap'] 26)):=(Below.refl B wr).alloc hBj _;have hal2 : Below wr.heap.size wr (wr.alloc (.cells #[.int .i64 x.kind,.string x.text,.int .i64 x.int,.float .f64 x.real,.bool x.flag,.slice a' x.list.length cap'] 26)):=(Below.refl _ wr).alloc (Nat.le_refl _) _;have hxf:=A4 hfe.out.2 x hmem;have hxr:=V.rangedL_mem hra.out.2.2.2 x hmem;have hce:=v.count_eq;have hcx : V.countL (v.list.take j) + x.count <= V.countL v.list:=by
       have h1:=V.countL_take v.list (j + 1);rw [hts,V.countL_append] at h1;simp only [V.countL] at h1;omega
     have hwl:=F3 (v.list.take j) (d - 1) (V.fineL_take hfe.out.2 j) (C2 fun z hz => V.rangedL_mem hra.out.2.2.2 z (List.mem_of_mem_take hz)) (by omega);have hsz : (s ++ T ++ ⟨(V.wireL (v.list.take j)).toArray⟩).size + 5000 * x.count <= 1000000000000:=by
       rw [ByteArray.size_append,ByteArray.size_append];have e : (⟨(V.wireL (v.list.take j)).toArray⟩ : ByteArray).size = (V.wireL (v.list.take j)).length:=Aq _;omega
     have hput:=ih.out x hmem x.kind x.text x.int x.real x.flag a' x.list.length cap' (d - 1) B _ u0 _ ⟨hx.mono (At hal),hxf,hxr,by omega,(hL.out.below hbj (Nat.le_refl _)).below hal (Nat.le_refl _),hRj.below hal2 (Nat.le_refl _),Nat.le_trans hBj hal.size,hsz⟩;have nbal:=nbj.trans (NB.of_below hal2);have hbal:=hbj.trans hal;replace hput:=Hd hput;replace hts:=Hd hts;replace hal:=Hd hal;replace hbal:=Hd hbal;replace nbal:=Hd nbal;clear hvw hx hxj hmem hxf hxr hce hcx hwl hsz hal2 hRj hbj nbj;go_wp2_with fail
     refine hput.out.mono ?_;rintro e w5 ⟨b5,rfl,hR5,hb5,n5⟩;have hb6:=hbal.out.trans hb5;have nb6:=nbal.out.trans n5;clear hb5 n5 d0 d1 d2 d3 d4 d5;replace hR5:=Hd hR5;replace hb6:=Hd hb6;replace nb6:=Hd nb6;go_wp2_with fail
     go_roundw
     case rel =>
       refine ⟨j + 1,by omega,by go_num,?_,hb6.out,nb6.out⟩;rw [hts.out,V.wireL_snoc,Dr,<- ByteArray.append_assoc];exact hR5.out
     case measure => simp [intOf]; omega
   · have hlti : ¬ (j : Int) < (n : Int):=by omega
     have hj9 : v.list.take j = v.list:=List.take_of_length_le (by have:=en.out; omega);rw [hj9,ByteArray.append_assoc,<- hwe.out] at hRj;replace hRj:=Hd hRj;replace hbj:=Hd hbj;replace nbj:=Hd nbj;go_wp2_with fail
     go_ret;exact ⟨_,rfl,hRj.out,hbj.out,nbj.out⟩
set_option maxRecDepth 100000 in
set_option maxHeartbeats 6400000 in
theorem put_5 {v : V} (ih : ∀ x ∈ v.list,∀ (k : Int) (t : ByteArray) (i : Int) (r : Nat) (f : Bool) (a : Option Addr) (n cap : Nat) (d : Int) (B : Nat) (w : World) (b : Value) (s : ByteArray),PutH x k t i r f a n cap d B w b s ->
      Calls Tryz.prog 33 #[b,.agg #[.int .i64 k,.string t,.int .i64 i,.float .f64 r,.bool f,.slice a n cap]] w (PutQ x B w s))
   {t : ByteArray} {i : Int} {r : Nat} {f : Bool} {a : Option Addr} {n cap : Nat} {d : Int} {B : Nat} {w : World} {b : Value} {s : ByteArray} (hp : PutH v 5 t i r f a n cap d B w b s) :
   Calls Tryz.prog 33 #[b,.agg #[.int .i64 5,.string t,.int .i64 i,.float .f64 r,.bool f,.slice a n cap]] w (PutQ v B w s):=by
 replace ih:=Hd ih
 obtain ⟨hv,hf,hr,hc,hL,hR,hB,hs⟩:=hp
 obtain ⟨ek,et,ei,er,ef,en⟩:=hv.len
 have hfe:=hf
 rw [V.fine_eq,Bool.and_eq_true,Bool.and_eq_true] at hfe
 have ok:=Ak hfe.1.1
 have hts:=ok.size
 rw [<- et] at hts
 have hra:=hr
 rw [V.ranged_eq,<- ei,<- er] at hra
 have hcp:=v.count_pos
 have hce0:=v.count_eq
 have hln:=V.length_le v.list
 rw [<- en] at hln
 have hn9 : n <= 100000:=by omega
 clear hce0 hln
 replace hL:=Hd hL
 replace hR:=Hd hR
 replace hv:=Hd hv
 replace hf:=Hd hf
 replace hr:=Hd hr
 replace ok:=Hd ok
 replace hfe:=Hd hfe
 replace hra:=Hd hra
 replace ek:=Hd ek
 replace et:=Hd et
 replace ei:=Hd ei
 replace er:=Hd er
 replace ef:=Hd ef
 replace en:=Hd en
 have hwe : (⟨v.wire.toArray⟩ : ByteArray) = numB 42 ((n : Nat) : Int) ++ ⟨(V.wireL v.list).toArray⟩:=by
   rw [<- Eh,<- Dr];congr 1;rw [V.wire_eq,<- ek.out,<- en.out]; rfl
 replace hwe:=Hd hwe
 have hix:=Ce 5 (by omega)
 replace hix:=Hd hix
 have hix:=fun W => hix.out W
 obtain ⟨W1,hW1⟩ : ∃ W1,W1 = w.alloc (.cells #[.int .i64 5,.string t,.int .i64 i,.float .f64 r,.bool f,.slice a n cap] 26):=⟨_,rfl⟩
 have hb0 : Below w.heap.size w W1:=by rw [hW1]; exact (Below.refl _ _).alloc (Nat.le_refl _) _
 have hcell : ∀ q u,#[.int .i64 5,.string t,.int .i64 i,.float .f64 r,.bool f,.slice a n cap][q]? = some u -> W1.cell? ⟨w.heap.size,q,none⟩ = some u:=fun q u h => by rw [hW1,World.cell?_alloc_new]; exact h
 have c0:=hcell 0 (.int .i64 5) rfl
 have hlt : w.heap.size < W1.heap.size:=World.block_lt_of_cell? _ _ c0
 replace hW1:=Hd hW1
 replace hcell:=Hd hcell
 replace hb0:=Hd hb0
 go_enter Tryz.func33,Tryz.ntmps33
 go_wp2_with fail
 rw [<- hW1.out]
 go_wp2_with fail
 refine Ah (by kernel_rfl) (by kernel_rfl) ?_
 repeat (go_big_quiet_step ((go_at_call 51; (with_reducible exact Ay (Be _)))))
 refine wpQuiet_nil ?_
 rintro _ ⟨xq,rfl⟩
 have hS:=Ap W1 xq
 obtain ⟨W2,hW2⟩ : ∃ W2,W2 = grow W1 xq:=⟨_,rfl⟩
 rw [<- hW2] at hS ⊢
 have g0:=Aa hS _ _ (hcell.out 0 (.int .i64 5) rfl)
 have g1:=Aa hS _ _ (hcell.out 1 (.string t) rfl)
 have g2:=Aa hS _ _ (hcell.out 2 (.int .i64 i) rfl)
 have g3:=Aa hS _ _ (hcell.out 3 (.float .f64 r) rfl)
 have g4:=Aa hS _ _ (hcell.out 4 (.bool f) rfl)
 have g5:=Aa hS _ _ (hcell.out 5 (.slice a n cap) rfl)
 have hb2 : Below w.heap.size w W2:=hb0.out.trans (hS.mono hb0.out.size)
 have hR2:=hR.out.below hb2 (Nat.le_refl _)
 have hL2:=hL.out.below hb2 hB
 have hB2 : B <= W2.heap.size:=Nat.le_trans hB hb2.size
 have hbB : Below B w W2:=hb2.mono hB
 have nb2 : NB w W2:=NB.of_below hb2
 have hbox : W2.heap[w.heap.size]? = some (.cells #[.int .i64 5,.string t,.int .i64 i,.float .f64 r,.bool f,.slice a n cap] 26):=by rw [hS.block _ hlt,hW1.out]; exact Al _ _
 clear c0 hS hlt
 replace nb2:=Hd nb2
 replace hbox:=Hd hbox
 replace hW2:=Hd hW2
 replace hR2:=Hd hR2
 replace hL2:=Hd hL2
 replace hbB:=Hd hbB
 replace hb2:=Hd hb2
 go_wp2_with fail
 refine (Cm 42 ((n : Nat) : Int) (by omega) (by omega) hL2.out.nums hR2.out hB2 (by omega)).mono ?_
 rintro e w3 ⟨b3,rfl,hR3,hb3,n3⟩
 have hz3:=Ch 42 ((n : Nat) : Int) (by omega) (by omega)
 have hb03:=hbB.out.trans hb3
 have nb3:=nb2.out.trans n3
 have f5 : w3.cell? ⟨w.heap.size,5,none⟩ = some (.slice a n cap):=by rw [n3.cell hbox.out (by decide)]; exact g5
 have hB3 : B <= w3.heap.size:=Nat.le_trans hB2 hb3.size
 generalize numB 42 ((n : Nat) : Int) = T at *
 clear g0 g1 g2 g3 g4 g5 hb3 n3
 replace hR3:=Hd hR3
 replace hb03:=Hd hb03
 replace nb3:=Hd nb3
 go_wp2_with fail
 go_loopw [0,87] (fun s0 s87 wr => ∃ j : Nat,j <= n /\ s87 = .int .i64 j /\ Row B wr s0 (s ++ T ++ ⟨(V.wireL (v.list.take j)).toArray⟩) /\ Below B w wr /\ NB w wr) (fun _ s87 _ => n - (intOf s87).toNat)
 case atStart => exact ⟨0,Nat.zero_le _,rfl,by rw [List.take_zero,V.wireL]; rw [show (⟨([] : List UInt8).toArray⟩ : ByteArray) = ⟨#[]⟩ from rfl,A5]; exact hR3.out,hb03.out,nb3.out⟩
 case round =>
   obtain ⟨j,hj,rfl,hRj,hbj,nbj⟩:=hrel;clear hR3 hb03 nb3 f5;have hBj : B <= wr.heap.size:=by have:=hbj.size; omega
   by_cases hlt : j < n
   · have hlti : (j : Int) < (n : Int):=by omega
     have hvw:=hv.out.mono (At hbj);rw [show Ae 5 t i r f a n cap = Ae v.kind v.text v.int v.real v.flag a n cap by rw [<- ek.out,<- et.out,<- ei.out,<- er.out,<- ef.out]] at hvw;obtain ⟨x,bb,o,a',cap',hxj,hmem,rfl,hx,d0,d1,d2,d3,d4,d5⟩:=hvw.elem' hlt;replace d0:=Ar _ _ d0;replace d1:=Ar _ _ d1;replace d2:=Ar _ _ d2;replace d3:=Ar _ _ d3;replace d4:=Ar _ _ d4;replace d5:=Ar _ _ d5;have hts : v.list.take (j + 1) = v.list.take j ++ [x]:=by
       obtain ⟨h1,h2⟩:=List.getElem?_eq_some_iff.1 hxj;rw [List.take_succ_eq_append_getElem h1,h2]
     have hal : Below B wr (wr.alloc (.cells #[.int .i64 x.kind,.string x.text,.int .i64 x.int,.float .f64 x.real,.bool x.flag,.slice a' x.list.length cap'] 26)):=(Below.refl B wr).alloc hBj _;have hal2 : Below wr.heap.size wr (wr.alloc (.cells #[.int .i64 x.kind,.string x.text,.int .i64 x.int,.float .f64 x.real,.bool x.flag,.slice a' x.list.length cap'] 26)):=(Below.refl _ wr).alloc (Nat.le_refl _) _;have hxf:=A4 hfe.out.2 x hmem;have hxr:=V.rangedL_mem hra.out.2.2.2 x hmem;have hce:=v.count_eq;have hcx : V.countL (v.list.take j) + x.count <= V.countL v.list:=by
       have h1:=V.countL_take v.list (j + 1);rw [hts,V.countL_append] at h1;simp only [V.countL] at h1;omega
     have hwl:=F3 (v.list.take j) (d - 1) (V.fineL_take hfe.out.2 j) (C2 fun z hz => V.rangedL_mem hra.out.2.2.2 z (List.mem_of_mem_take hz)) (by omega);have hsz : (s ++ T ++ ⟨(V.wireL (v.list.take j)).toArray⟩).size + 5000 * x.count <= 1000000000000:=by
       rw [ByteArray.size_append,ByteArray.size_append];have e : (⟨(V.wireL (v.list.take j)).toArray⟩ : ByteArray).size = (V.wireL (v.list.take j)).length:=Aq _;omega
     have hput:=ih.out x hmem x.kind x.text x.int x.real x.flag a' x.list.length cap' (d - 1) B _ u0 _ ⟨hx.mono (At hal),hxf,hxr,by omega,(hL.out.below hbj (Nat.le_refl _)).below hal (Nat.le_refl _),hRj.below hal2 (Nat.le_refl _),Nat.le_trans hBj hal.size,hsz⟩;have nbal:=nbj.trans (NB.of_below hal2);have hbal:=hbj.trans hal;replace hput:=Hd hput;replace hts:=Hd hts;replace hal:=Hd hal;replace hbal:=Hd hbal;replace nbal:=Hd nbal;clear hvw hx hxj hmem hxf hxr hce hcx hwl hsz hal2 hRj hbj nbj;go_wp2_with fail
     refine hput.out.mono ?_;rintro e w5 ⟨b5,rfl,hR5,hb5,n5⟩;have hb6:=hbal.out.trans hb5;have nb6:=nbal.out.trans n5;clear hb5 n5 d0 d1 d2 d3 d4 d5;replace hR5:=Hd hR5;replace hb6:=Hd hb6;replace nb6:=Hd nb6;go_wp2_with fail
     go_roundw
     case rel =>
       refine ⟨j + 1,by omega,by go_num,?_,hb6.out,nb6.out⟩;rw [hts.out,V.wireL_snoc,Dr,<- ByteArray.append_assoc];exact hR5.out
     case measure => simp [intOf]; omega
   · have hlti : ¬ (j : Int) < (n : Int):=by omega
     have hj9 : v.list.take j = v.list:=List.take_of_length_le (by have:=en.out; omega);rw [hj9,ByteArray.append_assoc,<- hwe.out] at hRj;replace hRj:=Hd hRj;replace hbj:=Hd hbj;replace nbj:=Hd nbj;go_wp2_with fail
     go_ret;exact ⟨_,rfl,hRj.out,hbj.out,nbj.out⟩
set_option maxRecDepth 100000 in
set_option maxHeartbeats 6400000 in
theorem put_13 {v : V} (ih : ∀ x ∈ v.list,∀ (k : Int) (t : ByteArray) (i : Int) (r : Nat) (f : Bool) (a : Option Addr) (n cap : Nat) (d : Int) (B : Nat) (w : World) (b : Value) (s : ByteArray),PutH x k t i r f a n cap d B w b s ->
      Calls Tryz.prog 33 #[b,.agg #[.int .i64 k,.string t,.int .i64 i,.float .f64 r,.bool f,.slice a n cap]] w (PutQ x B w s))
   {t : ByteArray} {i : Int} {r : Nat} {f : Bool} {a : Option Addr} {n cap : Nat} {d : Int} {B : Nat} {w : World} {b : Value} {s : ByteArray} (hp : PutH v 13 t i r f a n cap d B w b s) :
   Calls Tryz.prog 33 #[b,.agg #[.int .i64 13,.string t,.int .i64 i,.float .f64 r,.bool f,.slice a n cap]] w (PutQ v B w s):=by
 replace ih:=Hd ih
 obtain ⟨hv,hf,hr,hc,hL,hR,hB,hs⟩:=hp
 obtain ⟨ek,et,ei,er,ef,en⟩:=hv.len
 have hfe:=hf
 rw [V.fine_eq,Bool.and_eq_true,Bool.and_eq_true] at hfe
 have ok:=Ak hfe.1.1
 have hts:=ok.size
 rw [<- et] at hts
 have hra:=hr
 rw [V.ranged_eq,<- ei,<- er] at hra
 have hcp:=v.count_pos
 have hce0:=v.count_eq
 have hln:=V.length_le v.list
 rw [<- en] at hln
 have hn9 : n <= 100000:=by omega
 clear hce0 hln
 replace hL:=Hd hL
 replace hR:=Hd hR
 replace hv:=Hd hv
 replace hf:=Hd hf
 replace hr:=Hd hr
 replace ok:=Hd ok
 replace hfe:=Hd hfe
 replace hra:=Hd hra
 replace ek:=Hd ek
 replace et:=Hd et
 replace ei:=Hd ei
 replace er:=Hd er
 replace ef:=Hd ef
 replace en:=Hd en
 have hwe : (⟨v.wire.toArray⟩ : ByteArray) = numB 126 ((n : Nat) : Int) ++ ⟨(V.wireL v.list).toArray⟩:=by
   rw [<- Eh,<- Dr];congr 1;rw [V.wire_eq,<- ek.out,<- en.out]; rfl
 replace hwe:=Hd hwe
 have hix:=Ce 13 (by omega)
 replace hix:=Hd hix
 have hix:=fun W => hix.out W
 obtain ⟨W1,hW1⟩ : ∃ W1,W1 = w.alloc (.cells #[.int .i64 13,.string t,.int .i64 i,.float .f64 r,.bool f,.slice a n cap] 26):=⟨_,rfl⟩
 have hb0 : Below w.heap.size w W1:=by rw [hW1]; exact (Below.refl _ _).alloc (Nat.le_refl _) _
 have hcell : ∀ q u,#[.int .i64 13,.string t,.int .i64 i,.float .f64 r,.bool f,.slice a n cap][q]? = some u -> W1.cell? ⟨w.heap.size,q,none⟩ = some u:=fun q u h => by rw [hW1,World.cell?_alloc_new]; exact h
 have c0:=hcell 0 (.int .i64 13) rfl
 have hlt : w.heap.size < W1.heap.size:=World.block_lt_of_cell? _ _ c0
 replace hW1:=Hd hW1
 replace hcell:=Hd hcell
 replace hb0:=Hd hb0
 go_enter Tryz.func33,Tryz.ntmps33
 go_wp2_with fail
 rw [<- hW1.out]
 go_wp2_with fail
 refine Ah (by kernel_rfl) (by kernel_rfl) ?_
 repeat (go_big_quiet_step ((go_at_call 51; (with_reducible exact Ay (Be _)))))
 refine wpQuiet_nil ?_
 rintro _ ⟨xq,rfl⟩
 have hS:=Ap W1 xq
 obtain ⟨W2,hW2⟩ : ∃ W2,W2 = grow W1 xq:=⟨_,rfl⟩
 rw [<- hW2] at hS ⊢
 have g0:=Aa hS _ _ (hcell.out 0 (.int .i64 13) rfl)
 have g1:=Aa hS _ _ (hcell.out 1 (.string t) rfl)
 have g2:=Aa hS _ _ (hcell.out 2 (.int .i64 i) rfl)
 have g3:=Aa hS _ _ (hcell.out 3 (.float .f64 r) rfl)
 have g4:=Aa hS _ _ (hcell.out 4 (.bool f) rfl)
 have g5:=Aa hS _ _ (hcell.out 5 (.slice a n cap) rfl)
 have hb2 : Below w.heap.size w W2:=hb0.out.trans (hS.mono hb0.out.size)
 have hR2:=hR.out.below hb2 (Nat.le_refl _)
 have hL2:=hL.out.below hb2 hB
 have hB2 : B <= W2.heap.size:=Nat.le_trans hB hb2.size
 have hbB : Below B w W2:=hb2.mono hB
 have nb2 : NB w W2:=NB.of_below hb2
 have hbox : W2.heap[w.heap.size]? = some (.cells #[.int .i64 13,.string t,.int .i64 i,.float .f64 r,.bool f,.slice a n cap] 26):=by rw [hS.block _ hlt,hW1.out]; exact Al _ _
 clear c0 hS hlt
 replace nb2:=Hd nb2
 replace hbox:=Hd hbox
 replace hW2:=Hd hW2
 replace hR2:=Hd hR2
 replace hL2:=Hd hL2
 replace hbB:=Hd hbB
 replace hb2:=Hd hb2
 go_wp2_with fail
 refine (Cm 126 ((n : Nat) : Int) (by omega) (by omega) hL2.out.nums hR2.out hB2 (by omega)).mono ?_
 rintro e w3 ⟨b3,rfl,hR3,hb3,n3⟩
 have hz3:=Ch 126 ((n : Nat) : Int) (by omega) (by omega)
 have hb03:=hbB.out.trans hb3
 have nb3:=nb2.out.trans n3
 have f5 : w3.cell? ⟨w.heap.size,5,none⟩ = some (.slice a n cap):=by rw [n3.cell hbox.out (by decide)]; exact g5
 have hB3 : B <= w3.heap.size:=Nat.le_trans hB2 hb3.size
 generalize numB 126 ((n : Nat) : Int) = T at *
 clear g0 g1 g2 g3 g4 g5 hb3 n3
 replace hR3:=Hd hR3
 replace hb03:=Hd hb03
 replace nb3:=Hd nb3
 go_wp2_with fail
 go_loopw [0,87] (fun s0 s87 wr => ∃ j : Nat,j <= n /\ s87 = .int .i64 j /\ Row B wr s0 (s ++ T ++ ⟨(V.wireL (v.list.take j)).toArray⟩) /\ Below B w wr /\ NB w wr) (fun _ s87 _ => n - (intOf s87).toNat)
 case atStart => exact ⟨0,Nat.zero_le _,rfl,by rw [List.take_zero,V.wireL]; rw [show (⟨([] : List UInt8).toArray⟩ : ByteArray) = ⟨#[]⟩ from rfl,A5]; exact hR3.out,hb03.out,nb3.out⟩
 case round =>
   obtain ⟨j,hj,rfl,hRj,hbj,nbj⟩:=hrel;clear hR3 hb03 nb3 f5;have hBj : B <= wr.heap.size:=by have:=hbj.size; omega
   by_cases hlt : j < n
   · have hlti : (j : Int) < (n : Int):=by omega
     have hvw:=hv.out.mono (At hbj);rw [show Ae 13 t i r f a n cap = Ae v.kind v.text v.int v.real v.flag a n cap by rw [<- ek.out,<- et.out,<- ei.out,<- er.out,<- ef.out]] at hvw;obtain ⟨x,bb,o,a',cap',hxj,hmem,rfl,hx,d0,d1,d2,d3,d4,d5⟩:=hvw.elem' hlt;replace d0:=Ar _ _ d0;replace d1:=Ar _ _ d1;replace d2:=Ar _ _ d2;replace d3:=Ar _ _ d3;replace d4:=Ar _ _ d4;replace d5:=Ar _ _ d5;have hts : v.list.take (j + 1) = v.list.take j ++ [x]:=by
       obtain ⟨h1,h2⟩:=List.getElem?_eq_some_iff.1 hxj;rw [List.take_succ_eq_append_getElem h1,h2]
     have hal : Below B wr (wr.alloc (.cells #[.int .i64 x.kind,.string x.text,.int .i64 x.int,.float .f64 x.real,.bool x.flag,.slice a' x.list.length cap'] 26)):=(Below.refl B wr).alloc hBj _;have hal2 : Below wr.heap.size wr (wr.alloc (.cells #[.int .i64 x.kind,.string x.text,.int .i64 x.int,.float .f64 x.real,.bool x.flag,.slice a' x.list.length cap'] 26)):=(Below.refl _ wr).alloc (Nat.le_refl _) _;have hxf:=A4 hfe.out.2 x hmem;have hxr:=V.rangedL_mem hra.out.2.2.2 x hmem;have hce:=v.count_eq;have hcx : V.countL (v.list.take j) + x.count <= V.countL v.list:=by
       have h1:=V.countL_take v.list (j + 1);rw [hts,V.countL_append] at h1;simp only [V.countL] at h1;omega
     have hwl:=F3 (v.list.take j) (d - 1) (V.fineL_take hfe.out.2 j) (C2 fun z hz => V.rangedL_mem hra.out.2.2.2 z (List.mem_of_mem_take hz)) (by omega);have hsz : (s ++ T ++ ⟨(V.wireL (v.list.take j)).toArray⟩).size + 5000 * x.count <= 1000000000000:=by
       rw [ByteArray.size_append,ByteArray.size_append];have e : (⟨(V.wireL (v.list.take j)).toArray⟩ : ByteArray).size = (V.wireL (v.list.take j)).length:=Aq _;omega
     have hput:=ih.out x hmem x.kind x.text x.int x.real x.flag a' x.list.length cap' (d - 1) B _ u0 _ ⟨hx.mono (At hal),hxf,hxr,by omega,(hL.out.below hbj (Nat.le_refl _)).below hal (Nat.le_refl _),hRj.below hal2 (Nat.le_refl _),Nat.le_trans hBj hal.size,hsz⟩;have nbal:=nbj.trans (NB.of_below hal2);have hbal:=hbj.trans hal;replace hput:=Hd hput;replace hts:=Hd hts;replace hal:=Hd hal;replace hbal:=Hd hbal;replace nbal:=Hd nbal;clear hvw hx hxj hmem hxf hxr hce hcx hwl hsz hal2 hRj hbj nbj;go_wp2_with fail
     refine hput.out.mono ?_;rintro e w5 ⟨b5,rfl,hR5,hb5,n5⟩;have hb6:=hbal.out.trans hb5;have nb6:=nbal.out.trans n5;clear hb5 n5 d0 d1 d2 d3 d4 d5;replace hR5:=Hd hR5;replace hb6:=Hd hb6;replace nb6:=Hd nb6;go_wp2_with fail
     go_roundw
     case rel =>
       refine ⟨j + 1,by omega,by go_num,?_,hb6.out,nb6.out⟩;rw [hts.out,V.wireL_snoc,Dr,<- ByteArray.append_assoc];exact hR5.out
     case measure => simp [intOf]; omega
   · have hlti : ¬ (j : Int) < (n : Int):=by omega
     have hj9 : v.list.take j = v.list:=List.take_of_length_le (by have:=en.out; omega);rw [hj9,ByteArray.append_assoc,<- hwe.out] at hRj;replace hRj:=Hd hRj;replace hbj:=Hd hbj;replace nbj:=Hd nbj;go_wp2_with fail
     go_ret;exact ⟨_,rfl,hRj.out,hbj.out,nbj.out⟩
set_option maxRecDepth 100000 in
set_option maxHeartbeats 6400000 in
theorem put_14 {v : V} (ih : ∀ x ∈ v.list,∀ (k : Int) (t : ByteArray) (i : Int) (r : Nat) (f : Bool) (a : Option Addr) (n cap : Nat) (d : Int) (B : Nat) (w : World) (b : Value) (s : ByteArray),PutH x k t i r f a n cap d B w b s ->
      Calls Tryz.prog 33 #[b,.agg #[.int .i64 k,.string t,.int .i64 i,.float .f64 r,.bool f,.slice a n cap]] w (PutQ x B w s))
   {t : ByteArray} {i : Int} {r : Nat} {f : Bool} {a : Option Addr} {n cap : Nat} {d : Int} {B : Nat} {w : World} {b : Value} {s : ByteArray} (hp : PutH v 14 t i r f a n cap d B w b s) :
   Calls Tryz.prog 33 #[b,.agg #[.int .i64 14,.string t,.int .i64 i,.float .f64 r,.bool f,.slice a n cap]] w (PutQ v B w s):=by
 replace ih:=Hd ih
 obtain ⟨hv,hf,hr,hc,hL,hR,hB,hs⟩:=hp
 obtain ⟨ek,et,ei,er,ef,en⟩:=hv.len
 have hfe:=hf
 rw [V.fine_eq,Bool.and_eq_true,Bool.and_eq_true] at hfe
 have ok:=Ak hfe.1.1
 have hts:=ok.size
 rw [<- et] at hts
 have hra:=hr
 rw [V.ranged_eq,<- ei,<- er] at hra
 have hcp:=v.count_pos
 have hce0:=v.count_eq
 have hln:=V.length_le v.list
 rw [<- en] at hln
 have hn9 : n <= 100000:=by omega
 clear hce0 hln
 replace hL:=Hd hL
 replace hR:=Hd hR
 replace hv:=Hd hv
 replace hf:=Hd hf
 replace hr:=Hd hr
 replace ok:=Hd ok
 replace hfe:=Hd hfe
 replace hra:=Hd hra
 replace ek:=Hd ek
 replace et:=Hd et
 replace ei:=Hd ei
 replace er:=Hd er
 replace ef:=Hd ef
 replace en:=Hd en
 have hwe : (⟨v.wire.toArray⟩ : ByteArray) = numB 62 ((n : Nat) : Int) ++ ⟨(V.wireL v.list).toArray⟩:=by
   rw [<- Eh,<- Dr];congr 1;rw [V.wire_eq,<- ek.out,<- en.out]; rfl
 replace hwe:=Hd hwe
 have hix:=Ce 14 (by omega)
 replace hix:=Hd hix
 have hix:=fun W => hix.out W
 obtain ⟨W1,hW1⟩ : ∃ W1,W1 = w.alloc (.cells #[.int .i64 14,.string t,.int .i64 i,.float .f64 r,.bool f,.slice a n cap] 26):=⟨_,rfl⟩
 have hb0 : Below w.heap.size w W1:=by rw [hW1]; exact (Below.refl _ _).alloc (Nat.le_refl _) _
 have hcell : ∀ q u,#[.int .i64 14,.string t,.int .i64 i,.float .f64 r,.bool f,.slice a n cap][q]? = some u -> W1.cell? ⟨w.heap.size,q,none⟩ = some u:=fun q u h => by rw [hW1,World.cell?_alloc_new]; exact h
 have c0:=hcell 0 (.int .i64 14) rfl
 have hlt : w.heap.size < W1.heap.size:=World.block_lt_of_cell? _ _ c0
 replace hW1:=Hd hW1
 replace hcell:=Hd hcell
 replace hb0:=Hd hb0
 go_enter Tryz.func33,Tryz.ntmps33
 go_wp2_with fail
 rw [<- hW1.out]
 go_wp2_with fail
 refine Ah (by kernel_rfl) (by kernel_rfl) ?_
 repeat (go_big_quiet_step ((go_at_call 51; (with_reducible exact Ay (Be _)))))
 refine wpQuiet_nil ?_
 rintro _ ⟨xq,rfl⟩
 have hS:=Ap W1 xq
 obtain ⟨W2,hW2⟩ : ∃ W2,W2 = grow W1 xq:=⟨_,rfl⟩
 rw [<- hW2] at hS ⊢
 have g0:=Aa hS _ _ (hcell.out 0 (.int .i64 14) rfl)
 have g1:=Aa hS _ _ (hcell.out 1 (.string t) rfl)
 have g2:=Aa hS _ _ (hcell.out 2 (.int .i64 i) rfl)
 have g3:=Aa hS _ _ (hcell.out 3 (.float .f64 r) rfl)
 have g4:=Aa hS _ _ (hcell.out 4 (.bool f) rfl)
 have g5:=Aa hS _ _ (hcell.out 5 (.slice a n cap) rfl)
 have hb2 : Below w.heap.size w W2:=hb0.out.trans (hS.mono hb0.out.size)
 have hR2:=hR.out.below hb2 (Nat.le_refl _)
 have hL2:=hL.out.below hb2 hB
 have hB2 : B <= W2.heap.size:=Nat.le_trans hB hb2.size
 have hbB : Below B w W2:=hb2.mono hB
 have nb2 : NB w W2:=NB.of_below hb2
 have hbox : W2.heap[w.heap.size]? = some (.cells #[.int .i64 14,.string t,.int .i64 i,.float .f64 r,.bool f,.slice a n cap] 26):=by rw [hS.block _ hlt,hW1.out]; exact Al _ _
 clear c0 hS hlt
 replace nb2:=Hd nb2
 replace hbox:=Hd hbox
 replace hW2:=Hd hW2
 replace hR2:=Hd hR2
 replace hL2:=Hd hL2
 replace hbB:=Hd hbB
 replace hb2:=Hd hb2
 go_wp2_with fail
 refine (Cm 62 ((n : Nat) : Int) (by omega) (by omega) hL2.out.nums hR2.out hB2 (by omega)).mono ?_
 rintro e w3 ⟨b3,rfl,hR3,hb3,n3⟩
 have hz3:=Ch 62 ((n : Nat) : Int) (by omega) (by omega)
 have hb03:=hbB.out.trans hb3
 have nb3:=nb2.out.trans n3
 have f5 : w3.cell? ⟨w.heap.size,5,none⟩ = some (.slice a n cap):=by rw [n3.cell hbox.out (by decide)]; exact g5
 have hB3 : B <= w3.heap.size:=Nat.le_trans hB2 hb3.size
 generalize numB 62 ((n : Nat) : Int) = T at *
 clear g0 g1 g2 g3 g4 g5 hb3 n3
 replace hR3:=Hd hR3
 replace hb03:=Hd hb03
 replace nb3:=Hd nb3
 go_wp2_with fail
 go_loopw [0,87] (fun s0 s87 wr => ∃ j : Nat,j <= n /\ s87 = .int .i64 j /\ Row B wr s0 (s ++ T ++ ⟨(V.wireL (v.list.take j)).toArray⟩) /\ Below B w wr /\ NB w wr) (fun _ s87 _ => n - (intOf s87).toNat)
 case atStart => exact ⟨0,Nat.zero_le _,rfl,by rw [List.take_zero,V.wireL]; rw [show (⟨([] : List UInt8).toArray⟩ : ByteArray) = ⟨#[]⟩ from rfl,A5]; exact hR3.out,hb03.out,nb3.out⟩
 case round =>
   obtain ⟨j,hj,rfl,hRj,hbj,nbj⟩:=hrel;clear hR3 hb03 nb3 f5;have hBj : B <= wr.heap.size:=by have:=hbj.size; omega
   by_cases hlt : j < n
   · have hlti : (j : Int) < (n : Int):=by omega
     have hvw:=hv.out.mono (At hbj);rw [show Ae 14 t i r f a n cap = Ae v.kind v.text v.int v.real v.flag a n cap by rw [<- ek.out,<- et.out,<- ei.out,<- er.out,<- ef.out]] at hvw;obtain ⟨x,bb,o,a',cap',hxj,hmem,rfl,hx,d0,d1,d2,d3,d4,d5⟩:=hvw.elem' hlt;replace d0:=Ar _ _ d0;replace d1:=Ar _ _ d1;replace d2:=Ar _ _ d2;replace d3:=Ar _ _ d3;replace d4:=Ar _ _ d4;replace d5:=Ar _ _ d5;have hts : v.list.take (j + 1) = v.list.take j ++ [x]:=by
       obtain ⟨h1,h2⟩:=List.getElem?_eq_some_iff.1 hxj;rw [List.take_succ_eq_append_getElem h1,h2]
     have hal : Below B wr (wr.alloc (.cells #[.int .i64 x.kind,.string x.text,.int .i64 x.int,.float .f64 x.real,.bool x.flag,.slice a' x.list.length cap'] 26)):=(Below.refl B wr).alloc hBj _;have hal2 : Below wr.heap.size wr (wr.alloc (.cells #[.int .i64 x.kind,.string x.text,.int .i64 x.int,.float .f64 x.real,.bool x.flag,.slice a' x.list.length cap'] 26)):=(Below.refl _ wr).alloc (Nat.le_refl _) _;have hxf:=A4 hfe.out.2 x hmem;have hxr:=V.rangedL_mem hra.out.2.2.2 x hmem;have hce:=v.count_eq;have hcx : V.countL (v.list.take j) + x.count <= V.countL v.list:=by
       have h1:=V.countL_take v.list (j + 1);rw [hts,V.countL_append] at h1;simp only [V.countL] at h1;omega
     have hwl:=F3 (v.list.take j) (d - 1) (V.fineL_take hfe.out.2 j) (C2 fun z hz => V.rangedL_mem hra.out.2.2.2 z (List.mem_of_mem_take hz)) (by omega);have hsz : (s ++ T ++ ⟨(V.wireL (v.list.take j)).toArray⟩).size + 5000 * x.count <= 1000000000000:=by
       rw [ByteArray.size_append,ByteArray.size_append];have e : (⟨(V.wireL (v.list.take j)).toArray⟩ : ByteArray).size = (V.wireL (v.list.take j)).length:=Aq _;omega
     have hput:=ih.out x hmem x.kind x.text x.int x.real x.flag a' x.list.length cap' (d - 1) B _ u0 _ ⟨hx.mono (At hal),hxf,hxr,by omega,(hL.out.below hbj (Nat.le_refl _)).below hal (Nat.le_refl _),hRj.below hal2 (Nat.le_refl _),Nat.le_trans hBj hal.size,hsz⟩;have nbal:=nbj.trans (NB.of_below hal2);have hbal:=hbj.trans hal;replace hput:=Hd hput;replace hts:=Hd hts;replace hal:=Hd hal;replace hbal:=Hd hbal;replace nbal:=Hd nbal;clear hvw hx hxj hmem hxf hxr hce hcx hwl hsz hal2 hRj hbj nbj;go_wp2_with fail
     refine hput.out.mono ?_;rintro e w5 ⟨b5,rfl,hR5,hb5,n5⟩;have hb6:=hbal.out.trans hb5;have nb6:=nbal.out.trans n5;clear hb5 n5 d0 d1 d2 d3 d4 d5;replace hR5:=Hd hR5;replace hb6:=Hd hb6;replace nb6:=Hd nb6;go_wp2_with fail
     go_roundw
     case rel =>
       refine ⟨j + 1,by omega,by go_num,?_,hb6.out,nb6.out⟩;rw [hts.out,V.wireL_snoc,Dr,<- ByteArray.append_assoc];exact hR5.out
     case measure => simp [intOf]; omega
   · have hlti : ¬ (j : Int) < (n : Int):=by omega
     have hj9 : v.list.take j = v.list:=List.take_of_length_le (by have:=en.out; omega);rw [hj9,ByteArray.append_assoc,<- hwe.out] at hRj;replace hRj:=Hd hRj;replace hbj:=Hd hbj;replace nbj:=Hd nbj;go_wp2_with fail
     go_ret;exact ⟨_,rfl,hRj.out,hbj.out,nbj.out⟩
theorem Cq (v : V) : ∀ (k : Int) (t : ByteArray) (i : Int) (r : Nat) (f : Bool) (a : Option Addr) (n cap : Nat) (d : Int) (B : Nat) (w : World) (b : Value) (s : ByteArray),PutH v k t i r f a n cap d B w b s ->
   Calls Tryz.prog 33 #[b,.agg #[.int .i64 k,.string t,.int .i64 i,.float .f64 r,.bool f,.slice a n cap]] w (PutQ v B w s):=by
 induction v using V.ind with
 | h v ih =>
 intro k t i r f a n cap d B w b s hp
 have hk : 1 <= k /\ k <= 14:=by
   have hfe:=hp.fine;rw [V.fine_eq,Bool.and_eq_true,Bool.and_eq_true] at hfe;rw [hp.val.len.1];exact (Ak hfe.1.1).kind
 rcases (by omega : k = 1 \/ k = 2 \/ k = 9 \/ k = 3 \/ k = 7 \/ k = 8 \/ k = 6 \/ k = 4 \/ k = 10 \/ k = 11 \/ k = 12 \/ k = 5 \/ k = 13 \/ k = 14) with rfl | rfl | rfl | rfl | rfl | rfl | rfl | rfl | rfl | rfl | rfl | rfl | rfl | rfl
 · exact put_1 hp
 · exact put_2 hp
 · exact put_9 hp
 · exact put_3 hp
 · exact put_7 hp
 · exact put_8 hp
 · exact put_6 hp
 · exact put_4 hp
 · exact put_10 hp
 · exact put_11 hp
 · exact put_12 ih hp
 · exact put_5 ih hp
 · exact put_13 ih hp
 · exact put_14 ih hp
end Go.Proofs.YtagkgfniihiinaaGreatDoor
