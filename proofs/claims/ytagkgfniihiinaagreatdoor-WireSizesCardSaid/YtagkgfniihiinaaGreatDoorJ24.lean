/- The texts of floats, as bytes: sign, digits, exponent (no program in sight). -/
import Derived.Test.YtagkgfniihiinaaGreatDoorShort
import Derived.Lib.ItoaNum
import Derived.Test.YtagkgfniihiinaaGreatDoorJ11
namespace Go.Proofs.YtagkgfniihiinaaGreatDoor
def dg8 (n : Nat) : UInt8 := UInt8.ofNat (48 + n)
def expL (x : Int) : List UInt8 :=
 (if x < 0 then 45 else 43) :: (if x.natAbs < 10 then [48, dg8 x.natAbs] else if x.natAbs < 100 then [dg8 (x.natAbs / 10), dg8 (x.natAbs % 10)] else [dg8 (x.natAbs / 100), dg8 (x.natAbs / 10 % 10), dg8 (x.natAbs % 10)])
def A4 (neg : Bool) : List UInt8 := if neg then [45] else []
def effE (neg : Bool) (D : List UInt8) (dp : Int) : List UInt8 :=
 A4 neg ++ [D.headD 48] ++ (if 1 < D.length then 46 :: D.tail else []) ++ [101] ++ expL (if D = [] then 0 else dp - 1)
def effF (neg : Bool) (D : List UInt8) (dp : Int) : List UInt8 :=
 A4 neg ++ (if 0 < dp then D.take dp.toNat ++ List.replicate (dp.toNat - D.length) 48 else [48]) ++
   (if dp < D.length then 46 :: (List.replicate (-dp).toNat 48 ++ D.drop dp.toNat) else [])
def A1 (l : List UInt8) : List UInt8 := (l.reverse.dropWhile (· == 48)).reverse
def digL (r : Nat) : List UInt8 := if r = 0 then [] else A1 (Lib.decDigits (Au r).1)
def A2 (r : Nat) : Int := if r = 0 then 0 else (Lib.nDigits (Au r).1 : Int) + (Au r).2
def Bh (b : Nat) : List UInt8 :=
 if nanF b then [110, 97, 110]
 else if b % 9223372036854775808 = 9218868437227405312 then A4 (decide (9223372036854775808 <= b)) ++ [105, 110, 102]
 else
   let D := digL (b % 9223372036854775808)
   let dp := A2 (b % 9223372036854775808)
   let x := if D = [] then 0 else dp - 1
   if x < -4 \/ 21 <= x then effE (decide (9223372036854775808 <= b)) D dp else effF (decide (9223372036854775808 <= b)) D dp
def midL (l : List UInt8) (prec : Nat) : List UInt8 := if 0 < prec then 46 :: (l.tail ++ List.replicate (prec - (l.length - 1)) 48) else []
theorem midL_pos {l : List UInt8} {prec : Nat} (h : 0 < prec) : midL l prec = 46 :: (l.tail ++ List.replicate (prec - (l.length - 1)) 48) := if_pos h
theorem midL_neg {l : List UInt8} {prec : Nat} (h : ¬ 0 < prec) : midL l prec = [] := if_neg h
def effP (neg : Bool) (D : List UInt8) (dp : Int) (prec : Nat) : List UInt8 :=
 A4 neg ++ [D.headD 48] ++ midL D prec ++ [101] ++ expL (if D.length = 0 then 0 else dp - 1)
theorem effP_short (neg : Bool) (D : List UInt8) (dp : Int) : effP neg D dp (D.length - 1) = effE neg D dp := by
 unfold effP effE midL
 have e : (D.length = 0) = (D = []) := by rw [List.length_eq_zero_iff]
 simp only [Nat.sub_self, List.replicate_zero, List.append_nil, e]
 by_cases h : 1 < D.length
 · rw [if_pos h, if_pos (by omega)]
 · rw [if_neg h, if_neg (by omega)]
theorem expL_len (x : Int) : 3 <= (expL x).length /\ (expL x).length <= 4 := by
 have key : ∀ (b : UInt8) (l : List UInt8), 2 <= l.length /\ l.length <= 3 -> 3 <= (b :: l).length /\ (b :: l).length <= 4 := fun b l h => by rw [List.length_cons]; omega
 unfold expL
 refine key _ _ ?_
 split
 · exact ⟨Nat.le_refl _, by simp⟩
 · split <;> simp
def dv (c : UInt8) : Nat := c.toNat - 48
def isD (c : UInt8) : Bool := decide (48 <= c.toNat) && decide (c.toNat <= 57)
def valD (l : List UInt8) : Nat := l.foldl (fun a c => a * 10 + dv c) 0
theorem foldl_val (l : List UInt8) : ∀ a : Nat, l.foldl (fun a c => a * 10 + dv c) a = a * 10 ^ l.length + valD l := by
 induction l with
 | nil => intro a; simp [valD]
 | cons c l ih =>
   intro a
   have e : valD (c :: l) = dv c * 10 ^ l.length + valD l := by
     show l.foldl (fun a c => a * 10 + dv c) (0 * 10 + dv c) = _
     rw [ih, Nat.zero_mul, Nat.zero_add]
   rw [List.foldl_cons, ih, e, List.length_cons, Nat.pow_succ, Nat.add_mul, Nat.mul_assoc, Nat.mul_comm 10 (10 ^ l.length)]
   omega
theorem Dk (a b : List UInt8) : valD (a ++ b) = valD a * 10 ^ b.length + valD b := by
 rw [valD, List.foldl_append, foldl_val]; rfl
theorem valD_snoc (a : List UInt8) (c : UInt8) : valD (a ++ [c]) = valD a * 10 + dv c := by
 rw [Dk]; simp [valD]
theorem E3 (c : UInt8) (l : List UInt8) : valD (c :: l) = dv c * 10 ^ l.length + valD l := by
 rw [valD, List.foldl_cons, foldl_val]; simp
theorem dv_le {c : UInt8} (h : isD c = true) : dv c <= 9 := by simp [isD] at h; unfold dv; omega
theorem valD_lt : ∀ {l : List UInt8}, (∀ c ∈ l, isD c = true) -> valD l < 10 ^ l.length
 | [], _ => by simp [valD]
 | c :: l, h => by
   have h1 := valD_lt (l := l) (fun x hx => h x (List.mem_cons_of_mem _ hx))
   have h2 := dv_le (h c (List.mem_cons_self ..))
   rw [E3, List.length_cons, Nat.pow_succ]
   have : dv c * 10 ^ l.length <= 9 * 10 ^ l.length := Nat.mul_le_mul_right _ h2
   omega
theorem Ea : ∀ {l : List UInt8}, (∀ c ∈ l, c = 48) -> valD l = 0
 | [], _ => rfl
 | c :: l, h => by
   rw [E3, h c (List.mem_cons_self ..), Ea (l := l) (fun x hx => h x (List.mem_cons_of_mem _ hx))]
   simp [dv]
def Dx (l : List UInt8) : List UInt8 := l.dropWhile (· == 48)
theorem stripL_mem {l : List UInt8} {c : UInt8} (h : c ∈ Dx l) : c ∈ l := (List.dropWhile_sublist _).subset h
def ndF (l : List UInt8) : Nat := (Dx l).length
def C4 (l : List UInt8) : Nat := valD ((Dx l).take 19)
def truncF (l : List UInt8) : Bool := ((Dx l).drop 19).any (· != 48)
theorem mantF_lt {l : List UInt8} (hd : ∀ c ∈ l, isD c = true) : C4 l < 10 ^ (min 19 (ndF l)) := by
 unfold C4 ndF
 have := valD_lt (l := (Dx l).take 19) (fun c hc => hd c (stripL_mem (List.mem_of_mem_take hc)))
 rwa [List.length_take] at this
theorem mantF_lt19 {l : List UInt8} (hd : ∀ c ∈ l, isD c = true) : C4 l < 10000000000000000000 :=
 Nat.lt_of_lt_of_le (mantF_lt hd) (Nat.pow_le_pow_right (n := 10) (by decide) (Nat.min_le_left 19 _))
def capE (l : List UInt8) : Nat := l.foldl (fun e c => if e < 10000 then e * 10 + dv c else e) 0
end Go.Proofs.YtagkgfniihiinaaGreatDoor
namespace Go.Proofs.YtagkgfniihiinaaGreatDoor
open Go.RowKit
theorem add_at (b o j : Nat) : (⟨b, o, none⟩ : Addr).add j = ⟨b, o + j, none⟩ := by
 unfold Addr.add
 split
 · rename_i h; subst h; rfl
 · rfl
structure RowK (B k : Nat) (w : World) (v : Value) (s : ByteArray) : Prop where
 row : Row B w v s
 off : v.ownBlock ≠ some k
 lt : k < w.heap.size
def Kept (k : Nat) (w w' : World) : Prop := w'.heap[k]? = w.heap[k]?
theorem Kept.refl (k : Nat) (w : World) : Kept k w w := rfl
theorem Kept.trans {k : Nat} {a b c : World} (h : Kept k a b) (g : Kept k b c) : Kept k a c := Eq.trans g h
theorem Kept.cell {k : Nat} {w w' : World} (h : Kept k w w') (o : Nat) : w'.cell? ⟨k, o, none⟩ = w.cell? ⟨k, o, none⟩ := World.cell?_of_block (w := w) h
theorem Fw {ops : Array Oper} {rest : List Oper} {o : Oper} {a : Act} {Q : Exit -> Act -> World -> Prop} {sl x : Operand} {B k b off cx : Nat} {w : World} {v : Value} {s t : ByteArray} (hgd : o.guard = none)
   (ho : o.op = .call { callee := .builtin .append, args := #[sl, x], argTypes := #[27, 27] }) (hs : a.eval sl = v) (hR : RowK B k w v s) (hx : a.eval x = .slice (some ⟨b, off, none⟩) t.size cx)
   (hc : ∀ j (h : j < t.size), w.cell? ⟨b, off + j, none⟩ = some (.int .u8 ((t.data[j]'h).toNat : Int))) (hn : s.size + t.size <= 140737488355328) (hB : B <= w.heap.size)
   (h : ∀ v' w', RowK B k w' v' (s ++ t) -> Below B w w' -> Kept k w w' -> wpList Tryz.prog ops Q rest (a.put o.dst v') w') : wpList Tryz.prog ops Q (o :: rest) a w := by
 obtain ⟨ht, hsz, hb, i, z, hi, hz, hi1, hi2, hz1⟩ := Fe
 refine wpList_append_own_at _ hgd sl x 27 ho B 5 i z 1 1 ht hi hz hi1 hi2 hz1 hsz v s.size (Lib.strCells s) hs hR.row.own ⟨b, off, none⟩ t.size cx (Lib.strCells t) hx (by rw [Lib.strCells_length, Nat.mul_one]) ?_ ?_ ?_ ?_ hB ?_
 · intro j u hj
   rw [add_at]
   have hjl : j < t.size := by
     have := (List.getElem?_eq_some_iff.1 hj).1
     rwa [Lib.strCells_length] at this
   rw [hc j hjl, <- hj, Lib.strCells, List.getElem?_map]
   have : t.data.toList[j]? = some (t.data[j]'hjl) := by rw [Array.getElem?_toList]; exact Array.getElem?_eq_getElem hjl
   rw [this]; rfl
 · exact Lib.strCells_oneCell t
 · unfold maxLen; omega
 · omega
 · intro v' w' g1 g2 _ g4
   have hlt := hR.lt
   refine h v' w' ⟨⟨?_⟩, ?_, Nat.lt_of_lt_of_le hR.lt g2.size⟩ (Below.of_append (Below.refl B w) (Fr.of_grown g2) (fun k hk => (Ae hR.row.own k hk).1) hB) (g2.block k hR.lt (fun e => hR.off e.symm))
   · rw [ByteArray.size_append, Be]
     exact g1
   · rcases g4 with g4 | g4
     · rw [g4]; exact hR.off
     · rw [g4]; intro e; rw [Option.some.injEq] at e; omega
theorem Ar {ops : Array Oper} {rest : List Oper} {o : Oper} {a : Act} {Q : Exit -> Act -> World -> Prop} {sl x : Operand} {B k : Nat} {w : World} {v : Value} {s : ByteArray} {us : Array Value} (t : ByteArray) (hgd : o.guard = none)
   (ho : o.op = .call { callee := .builtin .append, args := #[sl, x], argTypes := #[27, 27] }) (hs : a.eval sl = v) (hR : RowK B k w v s) (hu : us = (Lib.strCells t).toArray) (hx : a.eval x = .slice (some ⟨w.heap.size, 0, none⟩) t.size t.size)
   (hn : s.size + t.size <= 140737488355328) (hB : B <= w.heap.size)
   (h : ∀ v' w', RowK B k w' v' (s ++ t) -> Below B w w' -> Kept k w w' -> wpList Tryz.prog ops Q rest (a.put o.dst v') w') : wpList Tryz.prog ops Q (o :: rest) a (w.alloc (.cells us 5)) := by
 have hlt := hR.lt
 have hK : Kept k w (w.alloc (.cells us 5)) := Below.heap_alloc _ _ _ hlt
 have hb0 : Below B w (w.alloc (.cells us 5)) := (Below.refl B w).alloc hB _
 refine Fw (B := B) (k := k) (t := t) hgd ho hs ⟨⟨hR.row.own.alloc _⟩, hR.off, by simp; omega⟩ hx ?_ hn (by simp; omega) ?_
 · intro j hj
   rw [Nat.zero_add, World.cell?_alloc_new, hu]
   have : t.data.toList[j]? = some (t.data[j]'hj) := by rw [Array.getElem?_toList]; exact Array.getElem?_eq_getElem hj
   rw [List.getElem?_toArray, Lib.strCells, List.getElem?_map, this]; rfl
 · intro v' w' g1 g2 g3
   exact h v' w' g1 (hb0.trans g2) (hK.trans g3)
end Go.Proofs.YtagkgfniihiinaaGreatDoor
namespace Go.Proofs.YtagkgfniihiinaaGreatDoor
theorem Fg {n : Nat} (h : n < 10) : (UInt8.ofNat (48 + n)).toNat = 48 + n := by rw [UInt8.toNat_ofNat']; omega
theorem dec_isD (u : Nat) : ∀ c ∈ Lib.decDigits u, isD c = true := by
 induction u using Nat.strongRecOn with
 | _ u ih =>
   intro c hc
   rw [Lib.decDigits] at hc
   have key : ∀ n : Nat, n < 10 -> isD (UInt8.ofNat (48 + n)) = true := fun n h => by unfold isD; rw [Fg h]; simp; omega
   by_cases h : u < 10
   · rw [dif_pos h, List.mem_singleton] at hc
     rw [hc]; exact key u h
   · rw [dif_neg h, List.mem_append, List.mem_singleton] at hc
     rcases hc with hc | hc
     · exact ih (u / 10) (by omega) c hc
     · rw [hc]; exact key _ (Nat.mod_lt _ (by decide))
theorem dec_val (u : Nat) : valD (Lib.decDigits u) = u := by
 induction u using Nat.strongRecOn with
 | _ u ih =>
   have key : ∀ n : Nat, n < 10 -> dv (UInt8.ofNat (48 + n)) = n := fun n h => by unfold dv; rw [Fg h]; omega
   rw [Lib.decDigits]
   by_cases h : u < 10
   · rw [dif_pos h, E3, key u h]; simp [valD]
   · rw [dif_neg h, valD_snoc, ih (u / 10) (by omega), key _ (Nat.mod_lt _ (by decide))]; omega
theorem dec_head : ∀ {u : Nat}, 0 < u -> ∃ c l, Lib.decDigits u = c :: l /\ c ≠ 48 := by
 intro u
 induction u using Nat.strongRecOn with
 | _ u ih =>
   intro h0
   rw [Lib.decDigits]
   by_cases h : u < 10
   · rw [dif_pos h]
     refine ⟨_, _, rfl, fun e => ?_⟩
     have := congrArg UInt8.toNat e
     rw [Fg h] at this
     have e8 : (48 : UInt8).toNat = 48 := rfl
     omega
   · rw [dif_neg h]
     obtain ⟨c, l, h1, h2⟩ := ih (u / 10) (by omega) (by omega)
     rw [h1]
     exact ⟨c, _, rfl, h2⟩
theorem Ct (l : List UInt8) : ∃ n, l = A1 l ++ List.replicate n 48 := by
 refine ⟨(l.reverse.takeWhile (· == 48)).length, ?_⟩
 have h := List.takeWhile_append_dropWhile (p := fun c : UInt8 => c == 48) (l := l.reverse)
 have h2 : l.reverse.takeWhile (· == 48) = List.replicate (l.reverse.takeWhile (· == 48)).length 48 := by
   rw [List.eq_replicate_iff]
   refine ⟨rfl, fun b hb => ?_⟩
   have key : ∀ (m : List UInt8) (b : UInt8), b ∈ m.takeWhile (· == 48) -> b = 48 := by
     intro m
     induction m with
     | nil => intro b h; simp at h
     | cons a m ih =>
       intro b h
       rw [List.takeWhile_cons] at h
       split at h
       · rename_i ha
         rcases List.mem_cons.1 h with h | h
         · rw [h]; simpa using ha
         · exact ih b h
       · simp at h
   exact key _ b hb
 have h3 := congrArg List.reverse h
 rw [List.reverse_reverse, List.reverse_append] at h3
 conv => lhs; rw [<- h3]
 unfold A1
 congr 1
 rw [h2, List.reverse_replicate, List.length_replicate]
theorem stripZ_last (l : List UInt8) : A1 l = [] \/ ∃ m c, A1 l = m ++ [c] /\ c ≠ 48 := by
 unfold A1
 cases h : l.reverse.dropWhile (· == 48) with
 | nil => left; rfl
 | cons c m =>
   right
   refine ⟨m.reverse, c, by rw [List.reverse_cons], fun e => ?_⟩
   have := List.head_dropWhile_not (p := fun x : UInt8 => x == 48) (l := l.reverse) (by rw [h]; exact List.cons_ne_nil _ _)
   simp only [h, List.head_cons] at this
   rw [e] at this; simp at this
theorem stripZ_mem {l : List UInt8} {c : UInt8} (h : c ∈ A1 l) : c ∈ l := by
 obtain ⟨n, hn⟩ := Ct l
 rw [hn]; exact List.mem_append_left _ h
theorem F7 (l : List UInt8) : (A1 l).length <= l.length := by
 obtain ⟨n, hn⟩ := Ct l
 have := congrArg List.length hn
 rw [List.length_append] at this; omega
theorem valD_repl (n : Nat) : valD (List.replicate n 48) = 0 := Ea (fun c hc => (List.mem_replicate.1 hc).2)
theorem Fh (l : List UInt8) : valD l = valD (A1 l) * 10 ^ (l.length - (A1 l).length) := by
 obtain ⟨n, hn⟩ := Ct l
 have h2 := congrArg List.length hn
 rw [List.length_append, List.length_replicate] at h2
 conv => lhs; rw [hn]
 rw [Dk, valD_repl, Nat.add_zero, List.length_replicate]
 congr 2; omega
theorem stripZ_take (l : List UInt8) : A1 l = l.take (A1 l).length := by
 obtain ⟨n, hn⟩ := Ct l
 have h : (A1 l ++ List.replicate n 48).take (A1 l).length = A1 l := List.take_left ..
 rw [<- hn] at h
 exact h.symm
theorem Fx {l : List UInt8} (h : A1 l = []) : valD l = 0 := by
 rw [Fh, h]; simp [valD]
theorem inI_pos {r d : Nat} {p : Int} (h : 0 < r) (h1 : InI r (decA d p) (Av p)) : 1 <= d := by
 rcases Nat.eq_zero_or_pos d with h0 | h0
 · have hm : 0 < mid (r - 1) := by
     have := F4 (show r - 1 < r - 1 + 1 by omega)
     unfold mid; omega
   have hb : 0 < Av p := Nat.pow_pos (by decide)
   have h2 := Nat.mul_pos hm hb
   have h3 : decA d p = 0 := by unfold decA; rw [h0]; simp
   rcases h1.low with l | l | l
   · omega
   · rw [h3] at l; omega
   · rw [h3] at l; omega
 · exact h0
theorem F9 {r : Nat} (h : 0 < r) (hr : r < 9218868437227405312) : ((Au r).1 = fMax r / 10 /\ (Au r).2 = 1 - fP r /\ fMin r <= fMax r / 10 * 10) \/
   (¬ fMin r <= fMax r / 10 * 10 /\ (Au r).2 = -fP r /\ (Au r).1 = if fMin r < fMax r then rndU (usc r (xM r)) else fMin r) := by
 unfold Au
 by_cases h1 : fMin r <= fMax r / 10 * 10
 · rw [if_pos h1]; exact .inl ⟨rfl, rfl, h1⟩
 · rw [if_neg h1]
   right
   split
   · exact ⟨h1, rfl, rfl⟩
   · exact ⟨h1, rfl, rfl⟩
end Go.Proofs.YtagkgfniihiinaaGreatDoor
