/- The reader at the bytes of a value: that value; at each beginning of them: nothing yet (plain). -/
import Derived.Test.YtagkgfniihiinaaGreatDoorJ59
import Derived.Test.YtagkgfniihiinaaGreatDoorJ63
import Derived.Lib.IndexLaws
import Derived.Test.YtagkgfniihiinaaGreatDoorJ50
import Derived.Test.YtagkgfniihiinaaGreatDoorWhoW
import Derived.Test.YtagkgfniihiinaaGreatDoorVal
import Derived.Lib.ItoaNum
import Derived.Lib.ItoaLen
import Derived.Lib.SmallJoins
import Derived.Test.YtagkgfniihiinaaGreatDoorJ18
import Derived.Test.YtagkgfniihiinaaGreatDoorRNamL
import Derived.Test.YtagkgfniihiinaaGreatDoorJ25
import Derived.Test.YtagkgfniihiinaaGreatDoorJ4
namespace Go.Proofs.YtagkgfniihiinaaGreatDoor
theorem dec_free10 (u : Nat) : (10 : UInt8) ∉ Lib.decDigits u := fun h => absurd (E7 u _ h) (by decide)
theorem Ba (n : Int) : (10 : UInt8) ∉ Lib.itoa n := by
 unfold Lib.itoa
 split
 · intro h
   rcases List.mem_cons.1 h with h | h
   · exact absurd h (by decide)
   · exact dec_free10 _ h
 · exact dec_free10 _
theorem real_free10 {r : Nat} (h : r < 18446744073709551616) : (10 : UInt8) ∉ Bb r := by
 cases hnan : nanF r with
 | true => rw [Dr hnan]; decide
 | false =>
   rw [Cu hnan]
   have hb := C1 hnan
   intro hm
   rcases List.mem_append.1 hm with hm | hm
   · unfold A1 at hm
     split at hm
     · rw [List.mem_singleton] at hm; exact absurd hm (by decide)
     · cases hm
   · rcases Nat.eq_or_lt_of_le hb with h1 | h1
     · rw [h1] at hm
       unfold Be at hm
       rw [if_pos rfl] at hm
       exact absurd hm (by decide)
     · rcases Nat.eq_zero_or_pos (r % 9223372036854775808) with h0 | h0
       · rw [h0, C8] at hm; exact absurd hm (by decide)
       · obtain ⟨_, d, L, m, x, hR⟩ := Ci (s := ⟨(Be (r % 9223372036854775808)).toArray⟩) (neg := false) h0 h1 rfl
         obtain ⟨⟨c, b, rest, e1, _, _, _, e5⟩, _, _⟩ := hR.txt
         have e6 : Be (r % 9223372036854775808) = c :: b := e1
         rw [e6] at hm
         rcases e5 10 hm with h | h | h | h | h
         · exact absurd h (by decide)
         all_goals exact absurd h (by decide)
theorem crlf_free10 {t : ByteArray} (h : Dz t = false) : (10 : UInt8) ∉ t.data.toList := by
 intro hm
 unfold Dz Lib.containsAny at h
 rw [decide_eq_false_iff_not] at h
 refine h ?_
 have key : ∀ (l : List UInt8), (10 : UInt8) ∈ l -> 0 <= Lib.indexAny l [13, 10] := by
   intro l
   induction l with
   | nil => intro h; cases h
   | cons b l ih =>
     intro h
     unfold Lib.indexAny
     split
     · exact Int.le_refl _
     · rename_i hb
       rcases List.mem_cons.1 h with h | h
       · subst h; exact absurd (by decide) hb
       · have := ih h
         split
         · rename_i h2
           have h3 := beq_iff_eq.1 h2
           omega
         · omega
 exact key _ hm
theorem big_free10 {t : ByteArray} (h : bigB t = true) : (10 : UInt8) ∉ t.data.toList := by
 rw [bigB_eq, Bool.and_eq_true, List.all_eq_true] at h
 intro hm
 have hd := h.2
 unfold Ee at hd
 have n13 : digB 10 = false := by decide
 split at hd
 · rename_i h45
   cases hl : t.data.toList with
   | nil => rw [hl] at hm; cases hm
   | cons c l =>
     rw [hl] at hm hd h45
     rcases List.mem_cons.1 hm with h1 | h1
     · rw [List.head?_cons] at h45
       have := Option.some.inj h45
       rw [<- h1] at this; exact absurd this (by decide)
     · have := hd 10 (by simpa using h1)
       rw [n13] at this; cases this
 · have := hd 10 (by simpa using hm)
   rw [n13] at this; cases this
theorem index_at : ∀ {t : List UInt8} {c : UInt8} (z : List UInt8), c ∉ t -> Lib.indexByte (t ++ c :: z) c = (t.length : Int)
 | [], c, z, _ => by
   show Lib.indexByte (c :: z) c = 0
   unfold Lib.indexByte
   rw [if_pos (by simp)]
 | x :: t, c, z, h => by
   have hx : ¬ (x == c) = true := fun e => h (by rw [beq_iff_eq.1 e]; exact List.mem_cons_self ..)
   have ih := index_at (t := t) z (fun hm => h (List.mem_cons_of_mem _ hm))
   rw [List.cons_append]
   unfold Lib.indexByte
   rw [if_neg hx, ih, if_neg (by simp), List.length_cons]
   omega
theorem index_no : ∀ {t : List UInt8} {c : UInt8}, c ∉ t -> Lib.indexByte t c = -1
 | [], _, _ => rfl
 | x :: t, c, h => by
   have hx : ¬ (x == c) = true := fun e => h (by rw [beq_iff_eq.1 e]; exact List.mem_cons_self ..)
   unfold Lib.indexByte
   rw [if_neg hx, index_no (fun hm => h (List.mem_cons_of_mem _ hm)), if_pos (by rfl)]
theorem Es {t z : List UInt8} (h13 : (13 : UInt8) ∉ t) (h10 : (10 : UInt8) ∉ t) (hz : t.length <= 4198) : Bf (t ++ 13 :: 10 :: z) = .got (t, t.length + 2) := by
 obtain ⟨z', hR⟩ : ∃ z', (t ++ 13 :: 10 :: z).take 4200 = t ++ 13 :: 10 :: z' := by
   refine ⟨z.take (4200 - t.length - 2), ?_⟩
   rw [List.take_append, List.take_of_length_le (by omega)]
   congr 1
   obtain ⟨k, hk⟩ : ∃ k, 4200 - t.length = k + 2 := ⟨4200 - t.length - 2, by omega⟩
   rw [hk, List.take_succ_cons, List.take_succ_cons, show k + 2 - 2 = k by omega]
 have e1 : Lib.indexByte (t ++ 13 :: 10 :: z') 13 = (t.length : Int) := index_at _ h13
 have e2 : Lib.indexByte (t ++ 13 :: 10 :: z') 10 = ((t.length + 1 : Nat) : Int) := by
   have := index_at (t := t ++ [13]) (c := 10) z' (fun hm => by
     rcases List.mem_append.1 hm with hm | hm
     · exact h10 hm
     · rw [List.mem_singleton] at hm; exact absurd hm (by decide))
   rw [List.append_assoc, List.length_append] at this
   exact this
 unfold Bf
 rw [hR]
 dsimp only
 rw [e1, e2, if_neg (by omega), if_neg (by omega)]
 congr 2
 · rw [show (((t.length + 1 : Nat) : Int) - 1).toNat = t.length by omega, List.take_left]
theorem lineS_wait {t p q : List UInt8} (h13 : (13 : UInt8) ∉ t) (h10 : (10 : UInt8) ∉ t) (hz : t.length <= 4198) (h : t ++ [13, 10] = p ++ q) (hq : q ≠ []) : Bf p = .stop 0 := by
 have hl : p.length <= t.length + 1 := by
   have := congrArg List.length h
   have h1 : 0 < q.length := List.length_pos_iff.2 hq
   simp only [List.length_append, List.length_cons, List.length_nil] at this
   omega
 have hp : p = (t ++ [13]).take p.length := by
   have h1 : p = (t ++ [13, 10]).take p.length := by rw [h, List.take_left]
   rw [show t ++ [13, 10] = (t ++ [13]) ++ [10] by simp, List.take_append_of_le_length (by simp; omega)] at h1
   exact h1
 have m10 : (10 : UInt8) ∉ p := fun hm => by
   rw [hp] at hm
   have := List.mem_of_mem_take hm
   rcases List.mem_append.1 this with hm | hm
   · exact h10 hm
   · rw [List.mem_singleton] at hm; exact absurd hm (by decide)
 have e10 := index_no m10
 have e13 : Lib.indexByte p 13 = -1 \/ Lib.indexByte p 13 = (p.length : Int) - 1 := by
   rcases Nat.lt_or_ge t.length p.length with h1 | h1
   · right
     have hpl : p = t ++ [13] := by rw [hp]; exact List.take_of_length_le (by simp; omega)
     rw [hpl, index_at [] h13]
     simp
   · left
     rw [hp, List.take_append_of_le_length h1]
     exact index_no (fun hm => h13 (List.mem_of_mem_take hm))
 unfold Bf
 rw [List.take_of_length_le (show p.length <= 4200 by omega)]
 dsimp only
 rw [e10, if_neg (by omega), if_pos (by decide)]
theorem longS_got {t z : List UInt8} : D7 (t ++ 13 :: 10 :: z) t.length = .got t := by
 unfold D7
 have e1 : (t ++ 13 :: 10 :: z).getD t.length 0 = 13 := by simp [List.getD]
 have e2 : (t ++ 13 :: 10 :: z).getD (t.length + 1) 0 = 10 := by simp [List.getD]
 rw [e1, e2, if_neg (by simp), if_neg (by simp), List.take_left]
theorem getD_app {p q : List UInt8} {k : Nat} (h : k < p.length) : p.getD k 0 = (p ++ q).getD k 0 := by
 simp only [List.getD]
 rw [List.getElem?_append_left h]
theorem longS_wait {t p q : List UInt8} (h : t ++ [13, 10] = p ++ q) (hq : q ≠ []) : D7 p t.length = .stop 0 := by
 have hl : p.length <= t.length + 1 := by
   have := congrArg List.length h
   have h1 : 0 < q.length := List.length_pos_iff.2 hq
   simp only [List.length_append, List.length_cons, List.length_nil] at this
   omega
 unfold D7
 rw [if_neg, if_pos (by omega)]
 rintro (⟨h1, h2⟩ | ⟨h1, _⟩)
 · refine h2 ?_
   rw [getD_app (q := q) h1, <- h]
   simp [List.getD]
 · omega
def Part (p l : List UInt8) : Prop := ∃ q, q ≠ [] /\ l = p ++ q
theorem Part.cons {p l : List UInt8} {c : UInt8} (h : Part p (c :: l)) : p = [] \/ ∃ p', p = c :: p' /\ Part p' l := by
 obtain ⟨q, hq, e⟩ := h
 cases p with
 | nil => exact .inl rfl
 | cons x p =>
   obtain ⟨e1, e2⟩ := List.cons.inj e
   exact .inr ⟨p, by rw [e1], q, hq, e2⟩
theorem Part.app {p a b : List UInt8} (h : Part p (a ++ b)) : Part p a \/ ∃ p', p = a ++ p' /\ Part p' b := by
 induction a generalizing p with
 | nil => exact .inr ⟨p, rfl, h⟩
 | cons c a ih =>
   rcases Part.cons (c := c) (l := a ++ b) h with rfl | ⟨p', rfl, h'⟩
   · exact .inl ⟨c :: a, by simp, rfl⟩
   · rcases ih h' with ⟨q, hq, e⟩ | ⟨p2, rfl, h2⟩
     · exact .inl ⟨q, hq, by rw [e]; rfl⟩
     · exact .inr ⟨p2, rfl, h2⟩
theorem Part.line {p t : List UInt8} {m : UInt8} (h : Part p (B6 m t)) (h13 : (13 : UInt8) ∉ t) (h10 : (10 : UInt8) ∉ t) (hz : t.length <= 4198) : p = [] \/ ∃ p', p = m :: p' /\ Bf p' = .stop 0 := by
 rcases Part.cons h with rfl | ⟨p', rfl, q, hq, e⟩
 · exact .inl rfl
 · exact .inr ⟨p', rfl, lineS_wait h13 h10 hz e hq⟩
theorem head_wait {rp : Rp} {p : List UInt8} {c : UInt8} (hk : Ac c ≠ 0) (h : Bf p = .stop 0) : B8 rp (c :: p) = .stop 0 := by
 unfold B8
 dsimp only
 rw [if_neg hk, h]
theorem needH_wait {rp : Rp} {p : List UInt8} {c : UInt8} (h : Bf p = .stop 0) : Fq rp (c :: p) := by
 intro c' L' t u e _ hl
 obtain ⟨_, e2⟩ := List.cons.inj e
 rw [<- e2, h] at hl
 cases hl
theorem D5 {rp : Rp} {lv many : Nat} {L : List UInt8} {q : Nat} (h : B8 rp L = .stop q) (hn : Fq rp L) : Ay rp lv many L = .stop q /\ Cn rp lv many L := by
 cases lv with
 | zero => exact ⟨by rw [Ay, h], hn⟩
 | succ lv => exact ⟨by rw [Ay, h], hn, fun kd n u e => by rw [h] at e; cases e⟩
theorem Fb {rp : Rp} {lv many u : Nat} {L : List UInt8} {v : V} (h : B8 rp L = .leaf v u) (hn : Fq rp L) : Ay rp lv many L = .got (v, u, many) /\ Cn rp lv many L := by
 cases lv with
 | zero => exact ⟨by rw [Ay, h], hn⟩
 | succ lv => exact ⟨by rw [Ay, h], hn, fun kd n u e => by rw [h] at e; cases e⟩
theorem scan_nil {rp : Rp} {lv many : Nat} : Ay rp lv many [] = .stop 0 /\ Cn rp lv many [] :=
 D5 rfl (fun c L t u e => by cases e)
theorem F0 (m : UInt8) (t z : List UInt8) : B6 m t ++ z = m :: (t ++ 13 :: 10 :: z) := by unfold B6; simp
theorem D4 {rp : Rp} {m : UInt8} {t z : List UInt8} (h13 : (13 : UInt8) ∉ t) (h10 : (10 : UInt8) ∉ t) (hz : t.length <= 4198) (hK : Ac m = 7 -> rp.K t) : Fq rp (m :: (t ++ 13 :: 10 :: z)) := by
 intro c L' t' u e hk hl
 obtain ⟨e1, e2⟩ := List.cons.inj e
 rw [<- e2, Es h13 h10 hz] at hl
 simp only [Out.got.injEq, Prod.mk.injEq] at hl
 rw [<- hl.1]
 exact hK (by rw [e1]; exact hk)
structure RpOk (rp : Rp) : Prop where
 reads : ∀ r, r < 18446744073709551616 -> rp (Bb r) = some (Dn r)
 known : ∀ r, r < 18446744073709551616 -> rp.K (Bb r)
theorem itoa_reads (n : Nat) (h : n <= 9223372036854775807) : wP (Lib.itoa (n : Int)) = some (n : Int) := wP_iff.2 ⟨by omega, rfl⟩
theorem F4 {n most : Nat} (h : n <= most) (hm : most <= 100000) : numS (Lib.itoa (n : Int)) most = some n := by
 unfold numS
 rw [itoa_reads n (by omega)]
 dsimp only
 rw [if_pos (by omega)]
 rfl
theorem Ei {n : Int} (h0 : -9223372036854775808 <= n) (h1 : n <= 9223372036854775807) : (Lib.itoa n).length <= 4198 := by
 have := itoa_len21 h0 h1; omega
theorem Fg (n : Nat) : Lib.itoa (n : Int) ≠ [45, 49] := by
 intro h
 have h1 := (wP_iff (l := Lib.itoa (n : Int)) (v := (n : Int)))
 have h2 : Lib.itoa (-1) = [45, 49] := by decide +kernel
 rw [<- h2] at h
 have := itoa_inj h
 omega
theorem Ew {r : Nat} (h : A2 r = 0) : r = 0 := by
 unfold A2 at h
 split at h
 · cases h
 · exact h
theorem text_list (t : ByteArray) : (⟨t.data.toList.toArray⟩ : ByteArray) = t := ByteArray.ext (by simp)
theorem F5 (k : Int) (t : ByteArray) (i : Int) (r : Nat) (f : Bool) (l : List V) : (V.mk k t i r f l).norm = .mk k t i (A2 r) f (l.map V.norm) := by rw [V.norm, V.normL_map]
theorem kind_mark : ∀ k : Fin 15, 1 <= k.val -> Ac (Bq k.val) = k.val := by decide
theorem kind_of_mark {k : Int} (h : 1 <= k /\ k <= 14) : (Ac (Bq k) : Int) = k := by
 have := kind_mark ⟨k.toNat, by omega⟩ (by show 1 <= k.toNat; omega)
 have e : ((k.toNat : Nat) : Int) = k := by omega
 simp only at this
 rw [e] at this
 rw [this]; exact e
theorem kind_eq {k : Int} (h : 1 <= k /\ k <= 14) {j : Nat} (hj : k = j) : Ac (Bq k) = j := by
 have := kind_of_mark h; omega
theorem head_line {rp : Rp} {m : UInt8} {t z : List UInt8} {v : V} (h13 : (13 : UInt8) ∉ t) (h10 : (10 : UInt8) ∉ t) (hz : t.length <= 4198)
   (hk : Ac m = 1 \/ Ac m = 2 \/ Ac m = 9 \/ Ac m = 3 \/ Ac m = 7 \/ Ac m = 8 \/ Ac m = 6) (ho : Cm (rp t) (Ac m) ⟨t.toArray⟩ = some v) (ok : okV v = true) :
   B8 rp (m :: (t ++ 13 :: 10 :: z)) = .leaf v (t.length + 3) := by
 unfold B8
 dsimp only
 rw [if_neg (by omega), Es h13 h10 hz]
 dsimp only
 rw [if_neg (by omega), if_neg (by omega), if_neg (by omega), if_neg (by omega), ho]
 dsimp only
 rw [if_pos ok, show 1 + (t.length + 2) = t.length + 3 by omega]
theorem head_long {rp : Rp} {m : UInt8} {t z : List UInt8} (hz : t.length <= 4096) (hk : Ac m = 4 \/ Ac m = 10 \/ Ac m = 11) (ok : okV (Ax (Ac m) ⟨t.toArray⟩ 0 0 false) = true) :
   B8 rp (D6 m t ++ z) = .leaf (Ax (Ac m) ⟨t.toArray⟩ 0 0 false) (D6 m t).length := by
 have hi := Ei (n := (t.length : Int)) (by omega) (by omega)
 have e : D6 m t ++ z = m :: (Lib.itoa (t.length : Int) ++ 13 :: 10 :: (t ++ 13 :: 10 :: z)) := by unfold D6 numL B6; simp
 have el : (D6 m t).length = 1 + ((Lib.itoa (t.length : Int)).length + 2) + (t.length + 2) := by unfold D6 numL B6; simp; omega
 rw [e, el]
 unfold B8
 dsimp only
 rw [if_neg (by omega), Es (B7 _) (Ba _) hi]
 dsimp only
 rw [if_neg (fun h => Fg _ h.1), if_pos hk, F4 hz (by decide)]
 dsimp only
 rw [show (Lib.itoa (t.length : Int) ++ 13 :: 10 :: (t ++ 13 :: 10 :: z)) = (Lib.itoa (t.length : Int) ++ [13, 10]) ++ (t ++ 13 :: 10 :: z) by simp,
   show (Lib.itoa (t.length : Int)).length + 2 = (Lib.itoa (t.length : Int) ++ [13, 10]).length by simp, List.drop_left, longS_got]
 dsimp only
 rw [if_pos ok]
theorem head_list {rp : Rp} {m : UInt8} {n : Nat} {z : List UInt8} (hn : n <= 1000) (hk : Ac m = 5 \/ Ac m = 13 \/ Ac m = 14 \/ Ac m = 12) :
   B8 rp (numL m (n : Int) ++ z) = .list (Ac m) (if Ac m = 12 then 2 * n else n) (numL m (n : Int)).length := by
 have hi := Ei (n := (n : Int)) (by omega) (by omega)
 have e : numL m (n : Int) ++ z = m :: (Lib.itoa (n : Int) ++ 13 :: 10 :: z) := by unfold numL B6; simp
 have el : (numL m (n : Int)).length = 1 + ((Lib.itoa (n : Int)).length + 2) := by unfold numL B6; simp; omega
 rw [e, el]
 unfold B8
 dsimp only
 rw [if_neg (by omega), Es (B7 _) (Ba _) hi]
 dsimp only
 rw [if_neg (fun h => Fg _ h.1), if_neg (by omega)]
 by_cases h12 : Ac m = 12
 · rw [if_neg (by omega), if_pos h12, F4 hn (by decide), if_pos h12, h12]
 · rw [if_pos (by omega), F4 hn (by decide), if_neg h12]
theorem ok7 (r r' : Nat) (h : okV (Ax 7 ⟨#[]⟩ 0 r false) = true) : okV (Ax 7 ⟨#[]⟩ 0 r' false) = true := h
theorem wire_leaf {rp : Rp} (hrp : RpOk rp) {v : V} (ho : okV v = true) (hr : v.ranged) (hl : v.kind = 1 \/ v.kind = 2 \/ v.kind = 9 \/ v.kind = 3 \/ v.kind = 7 \/ v.kind = 8 \/ v.kind = 6) :
   ∃ t, v.wire = B6 (Bq v.kind) t /\ (13 : UInt8) ∉ t /\ (10 : UInt8) ∉ t /\ t.length <= 4198 /\ (v.kind = 7 -> rp.K t) /\ Cm (rp t) v.kind.toNat ⟨t.toArray⟩ = some v.norm /\ okV v.norm = true := by
 have oo := Bp ho
 obtain ⟨k, t, i, r, f, l⟩ := v
 have ok1 := oo.kind
 have ok2 := oo.text
 have ok3 := oo.int
 have ok4 := oo.real
 have ok5 := oo.flag
 have ok6 := oo.list
 have ok7' := oo.line
 have ok8 := oo.big
 have ok9 := oo.size
 rw [V.ranged_eq] at hr
 obtain ⟨r1, r2, r3, _⟩ := hr
 simp only [V.kind, V.text, V.int, V.real, V.flag, V.list] at ok1 ok2 ok3 ok4 ok5 ok6 ok7' ok8 ok9 r1 r2 r3 hl ⊢
 clear oo
 have hlist : l = [] := ok6 (by omega)
 subst hlist
 rw [F5, List.map_nil]
 by_cases c1 : k = 1 \/ k = 2 \/ k = 9
 · have hi := ok3 (by omega)
   have hr0 := Ew (ok4 (by omega))
   have hf := ok5 (by omega)
   subst hi hr0 hf
   have hb : A2 0 = 0 := ok4 (by omega)
   rw [hb]
   have fr : (13 : UInt8) ∉ t.data.toList /\ (10 : UInt8) ∉ t.data.toList := by
     by_cases c : k = 9
     · exact ⟨big_free (ok8 c), big_free10 (ok8 c)⟩
     · exact ⟨crlf_free (ok7' (by omega)), crlf_free10 (ok7' (by omega))⟩
   refine ⟨t.data.toList, by rw [V.wire, if_pos c1], fr.1, fr.2, by have := Fz t; omega, fun h => by omega, ?_, ho⟩
   unfold Cm
   rw [if_pos (by omega), text_list, show ((k.toNat : Nat) : Int) = k by omega]
   rfl
 have ht := ok2 (by omega)
 subst ht
 by_cases c2 : k = 3
 · subst c2
   have hr0 := Ew (ok4 (by omega))
   have hf := ok5 (by omega)
   subst hr0 hf
   have hb : A2 0 = 0 := ok4 (by omega)
   rw [hb]
   refine ⟨Lib.itoa i, by rw [V.wire, if_neg c1, if_pos rfl]; rfl, B7 _, Ba _, Ei r1 r2, fun h => by omega, ?_, ho⟩
   unfold Cm
   rw [if_neg (by decide), if_pos (by decide)]
   have : wP (Lib.itoa i).toArray.toList = some i := wP_iff.2 ⟨⟨r1, r2⟩, by simp⟩
   rw [this]
   rfl
 have hi := ok3 c2
 subst hi
 by_cases c3 : k = 7
 · subst c3
   have hf := ok5 (by omega)
   subst hf
   refine ⟨Bb r, by rw [V.wire, if_neg c1, if_neg c2, if_pos rfl]; rfl, real_free r3, real_free10 r3, by have := text_len r3; omega, fun _ => hrp.known r r3, ?_, ok7 r _ ho⟩
   unfold Cm
   rw [if_neg (by decide), if_neg (by decide), if_pos (by decide), hrp.reads r r3, bits_canon r3]
   rfl
 have hr0 := Ew (ok4 c3)
 subst hr0
 have hb : A2 0 = 0 := ok4 c3
 rw [hb]
 by_cases c4 : k = 8
 · subst c4
   refine ⟨if f then [116] else [102], by rw [V.wire, if_neg c1, if_neg c2, if_neg c3, if_pos rfl]; rfl, by cases f <;> decide, by cases f <;> decide, by cases f <;> decide, fun h => by omega, ?_, ho⟩
   unfold Cm
   rw [if_neg (by decide), if_neg (by decide), if_neg (by decide), if_pos (by decide)]
   cases f
   · rw [if_neg (by decide), if_pos (by rfl)]; rfl
   · rw [if_pos (by rfl)]; rfl
 have c5 : k = 6 := by omega
 subst c5
 have hf := ok5 (by omega)
 subst hf
 refine ⟨[], by rw [V.wire, if_neg c1, if_neg c2, if_neg c3, if_neg c4, if_pos rfl]; rfl, by decide, by decide, by decide, fun h => by omega, ?_, ho⟩
 unfold Cm
 rw [if_neg (by decide), if_neg (by decide), if_neg (by decide), if_neg (by decide), if_pos (by rfl)]
 rfl
theorem wire_long {v : V} (ho : okV v = true) (hl : v.kind = 4 \/ v.kind = 10 \/ v.kind = 11) :
   v.wire = D6 (Bq v.kind) v.text.data.toList /\ v.norm = Ax v.kind v.text 0 0 false /\ okV (Ax v.kind v.text 0 0 false) = true := by
 have oo := Bp ho
 obtain ⟨k, t, i, r, f, l⟩ := v
 have ok3 := oo.int
 have ok4 := oo.real
 have ok5 := oo.flag
 have ok6 := oo.list
 simp only [V.kind, V.text, V.int, V.real, V.flag, V.list] at ok3 ok4 ok5 ok6 hl ⊢
 clear oo
 have hlist : l = [] := ok6 (by omega)
 have hi := ok3 (by omega)
 have hr0 := Ew (ok4 (by omega))
 have hf := ok5 (by omega)
 subst hlist hi hr0 hf
 have hb : A2 0 = 0 := ok4 (by omega)
 refine ⟨by rw [V.wire, if_neg (by omega), if_neg (by omega), if_neg (by omega), if_neg (by omega), if_neg (by omega), if_pos hl], by rw [F5, hb]; rfl, ho⟩
theorem wire_list {v : V} (ho : okV v = true) (hl : v.kind = 5 \/ v.kind = 12 \/ v.kind = 13 \/ v.kind = 14) :
   v.wire = numL (Bq v.kind) (Cc v.kind v.list.length) ++ V.wireL v.list /\ v.norm = .mk v.kind ⟨#[]⟩ 0 0 false (v.list.map V.norm) /\ (v.kind = 12 -> v.list.length % 2 = 0) /\ (v.kind = 14 -> v.list.length ≠ 0) := by
 have oo := Bp ho
 obtain ⟨k, t, i, r, f, l⟩ := v
 have ok2 := oo.text
 have ok3 := oo.int
 have ok4 := oo.real
 have ok5 := oo.flag
 have ok8 := oo.even
 simp only [V.kind, V.text, V.int, V.real, V.flag, V.list] at ok2 ok3 ok4 ok5 ok8 hl ⊢
 clear oo
 have ht := ok2 (by omega)
 have hi := ok3 (by omega)
 have hr0 := Ew (ok4 (by omega))
 have hf := ok5 (by omega)
 subst ht hi hr0 hf
 have hb : A2 0 = 0 := ok4 (by omega)
 refine ⟨by rw [V.wire, if_neg (by omega), if_neg (by omega), if_neg (by omega), if_neg (by omega), if_neg (by omega), if_neg (by omega), if_pos hl], by rw [F5, hb], ok8, fun h14 h0 => ?_⟩
 subst h14
 unfold okV Bx at ho
 simp [V.kind, V.list, h0] at ho
theorem scan_wire {rp : Rp} (hrp : RpOk rp) (v : V) : ∀ (lv many : Nat) (z : List UInt8), v.fine (lv : Int) = true -> v.ranged -> (v.kind = 14 -> 8 <= lv) -> many + v.count <= 1001 ->
   Ay rp lv many (v.wire ++ z) = .got (v.norm, v.wire.length, many + v.count - 1) /\ Cn rp lv many (v.wire ++ z) := by
 induction v using V.ind with
 | h v ih =>
 intro lv many z hf hr h14 hc
 have hf0 := hf
 rw [V.fine_eq, Bool.and_eq_true, Bool.and_eq_true] at hf
 obtain ⟨⟨ho, hlv⟩, hfl⟩ := hf
 have oo := Bp ho
 have hk := oo.kind
 have hkn : Ac (Bq v.kind) = v.kind.toNat := kind_eq hk (by omega)
 have hce := v.count_eq
 by_cases hleaf : v.kind = 1 \/ v.kind = 2 \/ v.kind = 9 \/ v.kind = 3 \/ v.kind = 7 \/ v.kind = 8 \/ v.kind = 6
 · obtain ⟨t, e1, h13, h10, hz, hK, hs, ok⟩ := wire_leaf hrp ho hr hleaf
   have hll : v.list = [] := oo.list (by omega)
   have hc1 : v.count = 1 := by rw [hce, hll]; rfl
   rw [e1, F0, Da, hc1]
   refine Fb (head_line h13 h10 hz (by rw [hkn]; omega) (by rw [hkn]; exact hs) ok) (D4 h13 h10 hz fun h7 => hK (by omega))
 by_cases hlong : v.kind = 4 \/ v.kind = 10 \/ v.kind = 11
 · obtain ⟨e1, e2, ok⟩ := wire_long ho hlong
   have hll : v.list = [] := oo.list (by omega)
   have hc1 : v.count = 1 := by rw [hce, hll]; rfl
   have hkz : ((v.kind.toNat : Nat) : Int) = v.kind := by omega
   have hsz := oo.size
   rw [e1, e2, hc1]
   have hh := head_long (rp := rp) (m := Bq v.kind) (t := v.text.data.toList) (z := z) (by have := Fz v.text; omega) (by rw [hkn]; omega) (by rw [hkn, hkz, text_list]; exact ok)
   rw [hkn, hkz, text_list] at hh
   refine Fb hh ?_
   have e : D6 (Bq v.kind) v.text.data.toList ++ z = Bq v.kind :: (Lib.itoa (v.text.data.toList.length : Int) ++ 13 :: 10 :: (v.text.data.toList ++ 13 :: 10 :: z)) := by unfold D6 numL B6; simp
   rw [e]
   have hsl := Fz v.text
   exact D4 (B7 _) (Ba _) (Ei (by omega) (by omega)) fun h7 => by omega
 have hlist : v.kind = 5 \/ v.kind = 12 \/ v.kind = 13 \/ v.kind = 14 := by omega
 obtain ⟨e1, e2, h12, h14'⟩ := wire_list ho hlist
 have hkz : ((v.kind.toNat : Nat) : Int) = v.kind := by omega
 have hlen := V.length_le v.list
 have hmk : Cc v.kind v.list.length <= 1000 := by unfold Cc; split <;> omega
 obtain ⟨lv', rfl⟩ : ∃ lv', lv = lv' + 1 := by
   cases lv with
   | zero =>
     have : Aq v.kind = true := by unfold Aq; exact decide_eq_true hlist
     rw [this] at hlv
     simp at hlv
   | succ k => exact ⟨k, rfl⟩
 rw [V.ranged_eq] at hr
 have hrl := hr.2.2.2
 have key : ∀ (l : List V), (∀ x ∈ l, x ∈ v.list) -> V.fineL l ((lv' : Nat) : Int) = true -> V.rangedL l -> ∀ (m : Nat) (z : List UInt8), m + V.countL l <= 1000 + l.length ->
     Cb (Ay rp lv') l.length m (V.wireL l ++ z) = .got (l.map V.norm, (V.wireL l).length, m + V.countL l - l.length) /\ needN (Cn rp lv') (Ay rp lv') l.length m (V.wireL l ++ z) := by
   intro l
   induction l with
   | nil => intro _ _ _ m z _; exact ⟨by simp [Cb, V.wireL, V.countL], trivial⟩
   | cons x l ihl =>
     intro hm h1 h2 m z hc
     simp only [V.fineL, Bool.and_eq_true, decide_eq_true_eq] at h1
     simp only [V.countL, List.length_cons] at hc ⊢
     have hxp := x.count_pos
     have hll := V.length_le l
     obtain ⟨a1, a2⟩ := ih x (hm x (List.mem_cons_self ..)) lv' m (V.wireL l ++ z) h1.1.2 h2.1 (fun h => absurd h h1.1.1) (by omega)
     obtain ⟨b1, b2⟩ := ihl (fun y hy => hm y (List.mem_cons_of_mem _ hy)) h1.2 h2.2 (m + x.count - 1) z (by omega)
     rw [V.wireL, List.append_assoc]
     refine ⟨?_, a2, fun v' u' m' e => ?_⟩
     · rw [Cb, a1]
       dsimp only
       rw [List.drop_left, b1]
       dsimp only
       rw [List.map_cons, List.length_append, show m + x.count - 1 + V.countL l - l.length = m + (x.count + V.countL l) - (l.length + 1) by omega]
     · rw [a1] at e
       simp only [Out.got.injEq, Prod.mk.injEq] at e
       rw [<- e.2.1, <- e.2.2, List.drop_left]
       exact b2
 have hfl' : V.fineL v.list ((lv' : Nat) : Int) = true := by
   rw [show ((lv' + 1 : Nat) : Int) - 1 = (lv' : Int) by omega] at hfl; exact hfl
 obtain ⟨k1, k2⟩ := key v.list (fun _ h => h) hfl' hrl (many + v.list.length) z (by omega)
 have hh := head_list (rp := rp) (m := Bq v.kind) (n := Cc v.kind v.list.length) (z := V.wireL v.list ++ z) hmk (by rw [hkn]; omega)
 have hN : (if Ac (Bq v.kind) = 12 then 2 * Cc v.kind v.list.length else Cc v.kind v.list.length) = v.list.length := by
   rw [hkn]
   by_cases c : v.kind = 12
   · have := h12 c
     rw [if_pos (by omega), Cc, if_pos c]; omega
   · rw [if_neg (by omega), Cc, if_neg c]
 rw [hN, hkn] at hh
 rw [e1, e2, List.append_assoc]
 have hne : Fq rp (numL (Bq v.kind) (Cc v.kind v.list.length : Nat) ++ (V.wireL v.list ++ z)) := by
   unfold numL
   rw [F0]
   exact D4 (B7 _) (Ba _) (Ei (by omega) (by omega)) fun h7 => by omega
 refine ⟨?_, hne, fun kd n u e => ?_⟩
 · rw [Ay, hh]
   dsimp only
   rw [if_neg (by
     rintro (h | ⟨h, h'⟩)
     · omega
     · have e14 : v.kind = 14 := by omega
       rcases h' with h' | h'
       · exact h14' e14 h'
       · have := h14 e14; omega)]
   rw [List.drop_left, k1]
   dsimp only
   rw [hkz, List.length_append]
   congr 3
   omega
 · rw [hh] at e
   simp only [Head.list.injEq] at e
   rw [<- e.2.1, <- e.2.2, List.drop_left]
   exact k2
theorem D3 {rp : Rp} {p t : List UInt8} {m : UInt8} {lv many : Nat} (h : Part p (B6 m t)) (hk : Ac m ≠ 0) (h13 : (13 : UInt8) ∉ t) (h10 : (10 : UInt8) ∉ t) (hz : t.length <= 4198) : Ay rp lv many p = .stop 0 /\ Cn rp lv many p := by
 rcases h.line h13 h10 hz with rfl | ⟨p', rfl, hl⟩
 · exact scan_nil
 · exact D5 (head_wait hk hl) (needH_wait hl)
theorem head_long_wait {rp : Rp} {m : UInt8} {t p : List UInt8} (hz : t.length <= 4096) (hk : Ac m = 4 \/ Ac m = 10 \/ Ac m = 11) (hp : Part p (t ++ [13, 10])) : B8 rp (numL m (t.length : Int) ++ p) = .stop 0 := by
 have hi := Ei (n := (t.length : Int)) (by omega) (by omega)
 have e : numL m (t.length : Int) ++ p = m :: (Lib.itoa (t.length : Int) ++ 13 :: 10 :: p) := by unfold numL B6; simp
 obtain ⟨q, hq, hpq⟩ := hp
 rw [e]
 unfold B8
 dsimp only
 rw [if_neg (by omega), Es (B7 _) (Ba _) hi]
 dsimp only
 rw [if_neg (fun h => Fg _ h.1), if_pos hk, F4 hz (by decide)]
 dsimp only
 rw [show (Lib.itoa (t.length : Int) ++ 13 :: 10 :: p) = (Lib.itoa (t.length : Int) ++ [13, 10]) ++ p by simp,
   show (Lib.itoa (t.length : Int)).length + 2 = (Lib.itoa (t.length : Int) ++ [13, 10]).length by simp, List.drop_left, longS_wait hpq hq]
theorem scan_wait {rp : Rp} (hrp : RpOk rp) (v : V) : ∀ (lv many : Nat) (p : List UInt8), v.fine (lv : Int) = true -> v.ranged -> (v.kind = 14 -> 8 <= lv) -> many + v.count <= 1001 -> Part p v.wire ->
   Ay rp lv many p = .stop 0 /\ Cn rp lv many p := by
 induction v using V.ind with
 | h v ih =>
 intro lv many p hf hr h14 hc hp
 have hf0 := hf
 rw [V.fine_eq, Bool.and_eq_true, Bool.and_eq_true] at hf
 obtain ⟨⟨ho, hlv⟩, hfl⟩ := hf
 have oo := Bp ho
 have hk := oo.kind
 have hkn : Ac (Bq v.kind) = v.kind.toNat := kind_eq hk (by omega)
 have hce := v.count_eq
 by_cases hleaf : v.kind = 1 \/ v.kind = 2 \/ v.kind = 9 \/ v.kind = 3 \/ v.kind = 7 \/ v.kind = 8 \/ v.kind = 6
 · obtain ⟨t, e1, h13, h10, hz, hK, hs, ok⟩ := wire_leaf hrp ho hr hleaf
   rw [e1] at hp
   exact D3 hp (by omega) h13 h10 hz
 by_cases hlong : v.kind = 4 \/ v.kind = 10 \/ v.kind = 11
 · obtain ⟨e1, e2, ok⟩ := wire_long ho hlong
   have hsz := oo.size
   have hsl := Fz v.text
   have hi := Ei (n := (v.text.data.toList.length : Int)) (by omega) (by omega)
   rw [e1] at hp
   unfold D6 at hp
   rcases hp.app with hp | ⟨p', rfl, hp'⟩
   · exact D3 hp (by omega) (B7 _) (Ba _) hi
   · refine D5 (head_long_wait (by omega) (by rw [hkn]; omega) hp') ?_
     unfold numL
     rw [F0]
     exact D4 (B7 _) (Ba _) hi fun h7 => by omega
 have hlist : v.kind = 5 \/ v.kind = 12 \/ v.kind = 13 \/ v.kind = 14 := by omega
 obtain ⟨e1, e2, h12, h14'⟩ := wire_list ho hlist
 have hlen := V.length_le v.list
 have hmk : Cc v.kind v.list.length <= 1000 := by unfold Cc; split <;> omega
 have hi := Ei (n := ((Cc v.kind v.list.length : Nat) : Int)) (by omega) (by omega)
 rw [e1] at hp
 rcases hp.app with hp | ⟨p', rfl, hp'⟩
 · exact D3 hp (by omega) (B7 _) (Ba _) hi
 obtain ⟨lv', rfl⟩ : ∃ lv', lv = lv' + 1 := by
   cases lv with
   | zero =>
     have : Aq v.kind = true := by unfold Aq; exact decide_eq_true hlist
     rw [this] at hlv
     simp at hlv
   | succ k => exact ⟨k, rfl⟩
 rw [V.ranged_eq] at hr
 have hrl := hr.2.2.2
 have key : ∀ (l : List V), (∀ x ∈ l, x ∈ v.list) -> V.fineL l ((lv' : Nat) : Int) = true -> V.rangedL l -> ∀ (m : Nat) (p : List UInt8), m + V.countL l <= 1000 + l.length -> Part p (V.wireL l) ->
     Cb (Ay rp lv') l.length m p = .stop 0 /\ needN (Cn rp lv') (Ay rp lv') l.length m p := by
   intro l
   induction l with
   | nil =>
     rintro _ _ _ m p _ ⟨q, hq, e⟩
     rw [V.wireL] at e
     have := congrArg List.length e
     have h1 : 0 < q.length := List.length_pos_iff.2 hq
     simp at this
     omega
   | cons x l ihl =>
     intro hm h1 h2 m p hc hp
     simp only [V.fineL, Bool.and_eq_true, decide_eq_true_eq] at h1
     simp only [V.countL, List.length_cons] at hc ⊢
     have hxp := x.count_pos
     have hll := V.length_le l
     rw [V.wireL] at hp
     rcases hp.app with hp | ⟨p', rfl, hp'⟩
     · obtain ⟨a1, a2⟩ := ih x (hm x (List.mem_cons_self ..)) lv' m p h1.1.2 h2.1 (fun h => absurd h h1.1.1) (by omega) hp
       exact ⟨by rw [Cb, a1], a2, fun v' u' m' e => by rw [a1] at e; cases e⟩
     · obtain ⟨a1, a2⟩ := scan_wire hrp x lv' m p' h1.1.2 h2.1 (fun h => absurd h h1.1.1) (by omega)
       obtain ⟨b1, b2⟩ := ihl (fun y hy => hm y (List.mem_cons_of_mem _ hy)) h1.2 h2.2 (m + x.count - 1) p' (by omega) hp'
       refine ⟨?_, a2, fun v' u' m' e => ?_⟩
       · rw [Cb, a1]
         dsimp only
         rw [List.drop_left, b1]
       · rw [a1] at e
         simp only [Out.got.injEq, Prod.mk.injEq] at e
         rw [<- e.2.1, <- e.2.2, List.drop_left]
         exact b2
 have hfl' : V.fineL v.list ((lv' : Nat) : Int) = true := by
   rw [show ((lv' + 1 : Nat) : Int) - 1 = (lv' : Int) by omega] at hfl; exact hfl
 obtain ⟨k1, k2⟩ := key v.list (fun _ h => h) hfl' hrl (many + v.list.length) p' (by omega) hp'
 have hh := head_list (rp := rp) (m := Bq v.kind) (n := Cc v.kind v.list.length) (z := p') hmk (by rw [hkn]; omega)
 have hN : (if Ac (Bq v.kind) = 12 then 2 * Cc v.kind v.list.length else Cc v.kind v.list.length) = v.list.length := by
   rw [hkn]
   by_cases c : v.kind = 12
   · have := h12 c
     rw [if_pos (by omega), Cc, if_pos c]; omega
   · rw [if_neg (by omega), Cc, if_neg c]
 rw [hN, hkn] at hh
 have hne : Fq rp (numL (Bq v.kind) (Cc v.kind v.list.length : Nat) ++ p') := by
   unfold numL
   rw [F0]
   exact D4 (B7 _) (Ba _) hi fun h7 => by omega
 refine ⟨?_, hne, fun kd n u e => ?_⟩
 · rw [Ay, hh]
   dsimp only
   rw [if_neg (by
     rintro (h | ⟨h, h'⟩)
     · omega
     · have e14 : v.kind = 14 := by omega
       rcases h' with h' | h'
       · exact h14' e14 h'
       · have := h14 e14; omega)]
   rw [List.drop_left, k1]
 · rw [hh] at e
   simp only [Head.list.injEq] at e
   rw [<- e.2.1, <- e.2.2, List.drop_left]
   exact k2
theorem afterL_nil (l : List UInt8) : B4 [] l = l := by cases l <;> rfl
theorem nD_app : ∀ {A B : List UInt8}, (∀ c ∈ A, isD c = true) -> (∀ c l, B = c :: l -> isD c = false) -> nD (A ++ B) = A.length
 | [], [], _, _ => rfl
 | [], c :: l, _, h => by
   unfold nD
   rw [List.nil_append, List.takeWhile_cons_of_neg (by rw [h c l rfl]; decide)]
 | a :: A, B, h, hB => by
   have ih := nD_app (A := A) (B := B) (fun x hx => h x (List.mem_cons_of_mem _ hx)) hB
   unfold nD at ih ⊢
   rw [List.cons_append, List.takeWhile_cons_of_pos (h a (List.mem_cons_self ..)), List.length_cons, ih, List.length_cons]
theorem part_exp {X : List UInt8} {x : Int} (h : ExpAt X x) : Eg 101 [43, 45] X = ([], true) := by
 have key : ∀ E : List UInt8, E ≠ [] -> (∀ c ∈ E, isD c = true) -> (E.drop (nD E), decide (0 < nD E)) = (([] : List UInt8), true) := fun E hE hd => by
   rw [nD_all hd, List.drop_length, decide_eq_true (List.length_pos_iff.2 hE)]
 cases h with
 | none => rfl
 | @bare E hE hd =>
   rw [Et]
   have : B4 [43, 45] E = E := by
     cases E with
     | nil => rfl
     | cons c l =>
       have hc := hd c (List.mem_cons_self ..)
       refine E6 fun hm => ?_
       rcases List.mem_cons.1 hm with rfl | hm
       · exact absurd hc (by decide)
       · rw [List.mem_singleton] at hm
         subst hm; exact absurd hc (by decide)
   rw [this]; exact key E hE hd
 | @plus E hE hd => rw [Et, D1 (by decide)]; exact key E hE hd
 | @minus E hE hd => rw [Et, D1 (by decide)]; exact key E hE hd
theorem right_form {A F X : List UInt8} {fr : Bool} {x : Int} (neg : Bool) (hA : A ≠ []) (hAd : ∀ c ∈ A, isD c = true) (hF : fr = true -> F ≠ []) (hFd : ∀ c ∈ F, isD c = true) (hX : ExpAt X x) :
   Dc (A1 neg ++ (A ++ (Bt fr F ++ X))) = true := by
 have hXd : ∀ c l, X = c :: l -> isD c = false := fun c l e => by rw [exp_head hX c l e]; decide
 have ha : B4 [45] (A1 neg ++ (A ++ (Bt fr F ++ X))) = A ++ (Bt fr F ++ X) := by
   cases A with
   | nil => exact absurd rfl hA
   | cons c l =>
     have hc := hAd c (List.mem_cons_self ..)
     cases neg
     · refine E6 fun hm => ?_
       rw [List.mem_singleton] at hm
       subst hm; exact absurd hc (by decide)
     · exact D1 (by decide)
 have hn : nD (A ++ (Bt fr F ++ X)) = A.length := by
   refine nD_app hAd ?_
   intro c l e
   unfold Bt at e
   cases fr
   · exact hXd c l e
   · cases e; decide
 have hp : Eg 46 [] (Bt fr F ++ X) = (X, true) := by
   cases fr
   · show Eg 46 [] X = (X, true)
     cases hx : X with
     | nil => rfl
     | cons c l =>
       have := exp_head hX c l hx
       subst this
       exact partL_neg (by decide)
   · show Eg 46 [] (46 :: (F ++ X)) = (X, true)
     rw [Et, afterL_nil, nD_app hFd hXd, List.drop_left, decide_eq_true (List.length_pos_iff.2 (hF rfl))]
 unfold Dc
 dsimp only
 rw [ha, hn, List.drop_left, hp]
 dsimp only
 rw [part_exp hX, decide_eq_true (List.length_pos_iff.2 hA)]
 rfl
theorem NumT.right {s : ByteArray} {neg d : Bool} {r m : Nat} {L : List UInt8} {x : Int} (h : NumT s neg r d L m x) : Dc s.data.toList = true := by
 obtain ⟨A, F, X, fr, y, hs, hA, hAd, hF, hFd, hX⟩ := h.parts
 rw [hs]; exact right_form neg hA hAd hF hFd hX
end Go.Proofs.YtagkgfniihiinaaGreatDoor
namespace Go.Proofs.YtagkgfniihiinaaGreatDoor
open Go.RowKit
theorem parse_nought {w : World} (hP : Par w) (hs : ByteArray) (h : hs.data.toList = [48]) : Calls Tryz.prog 90 #[.string hs] w fun e w' => e = .returned (.tuple #[.float .f64 0, .int .i64 0]) /\ Below w.heap.size w w' := by
 have hd : Lib.decDigits 0 = [48] := Lib.decDigits_one (by decide)
 refine parse_numB (neg := false) (c := 48) (l := []) h (by decide) (by rw [Ai, h]; decide) (by rw [h]; decide +kernel) fun w' hb => ?_
 refine sparse_okB ?_
 have hf := whole_form (s := hs) (neg := false) (n := 0) (by rw [h, hd]; rfl) (by decide +kernel)
 refine (atof_zero hf (by rw [hd]; decide +kernel) (hP.below hb)).mono ?_
 rintro e w'' ⟨he, rfl⟩
 exact ⟨he, Below.refl _ _⟩
theorem parse_reads {s : ByteArray} {neg d : Bool} {r m : Nat} {L : List UInt8} {x : Int} (h : NumT s neg r d L m x) (hr : r < 9218868437227405312) (hz : s.size <= 64) {w : World} (hP : Par w) (hF : Flo w) :
   Calls Tryz.prog 90 #[.string s] w fun e w' => e = .returned (.tuple #[.float .f64 (sgB neg + r), .int .i64 0]) /\ Below w.heap.size w w' := by
 obtain ⟨c, l, h1, hc⟩ := h.head
 refine parse_numB h1 hc hz h.right fun w' hb => ?_
 refine sparse_okB ?_
 refine (atof_mid h.txt h.pos h.lt h.whole rfl h.low h.high (hP.below hb) (hF.below hb).pows).mono ?_
 rintro e w'' ⟨R, hI, he, hb2⟩
 have hR : R = r := hI.uniq (Nat.pow_pos (by decide)) h.near
 subst hR
 have hne : ¬ R = 9218868437227405312 := by omega
 rw [Nat.min_eq_left (Nat.le_of_lt hr)] at he
 unfold Cw at he
 rw [if_neg hne] at he
 exact ⟨he, hb2⟩
theorem parse_text {n : Nat} (hn : n < 18446744073709551616) {s : ByteArray} (hs : s.data.toList = Bb n) {w : World} (hP : Par w) (hF : Flo w) :
   Calls Tryz.prog 90 #[.string s] w fun e w' => e = .returned (.tuple #[.float .f64 (Dn n), .int .i64 0]) /\ Below w.heap.size w w' := by
 cases hnan : nanF n with
 | true =>
   rw [Dr hnan] at hs
   rw [txt_eq hs, (canon_nan n).2 hnan]
   exact (parse_nan w).mono fun e w' ⟨h1, h2⟩ => ⟨h1, by rw [h2]; exact Below.refl _ _⟩
 | false =>
   have hc : Dn n = n := by unfold Dn; rw [hnan]; rfl
   rw [Cu hnan] at hs
   have hsp : n = sgB (decide (9223372036854775808 <= n)) + n % 9223372036854775808 := word_split n hn
   obtain ⟨sg, hsg⟩ : ∃ sg, sg = decide (9223372036854775808 <= n) := ⟨_, rfl⟩
   obtain ⟨r, hr⟩ : ∃ r, r = n % 9223372036854775808 := ⟨_, rfl⟩
   have hr9 : r <= 9218868437227405312 := by
     unfold nanF at hnan
     have := of_decide_eq_false hnan
     omega
   rw [<- hsg, <- hr] at hsp hs
   rw [hc, hsp]
   clear hc hnan hsg hsp hr
   rcases Nat.eq_or_lt_of_le hr9 with h | h
   · subst h
     have hb : Be 9218868437227405312 = [105, 110, 102] := by unfold Be; rw [if_pos rfl]
     rw [hb] at hs
     rw [txt_eq hs]
     cases sg
     · exact (parse_inf w).mono fun e w' ⟨h1, h2⟩ => ⟨h1, by rw [h2]; exact Below.refl _ _⟩
     · exact (parse_minf w).mono fun e w' ⟨h1, h2⟩ => ⟨h1, by rw [h2]; exact Below.refl _ _⟩
   · rcases Nat.eq_zero_or_pos r with h0 | h0
     · subst h0
       rw [C8] at hs
       cases sg
       · exact parse_nought hP s hs
       · rw [txt_eq hs]; exact parse_mzero hP
     · obtain ⟨hz, d, L, m, x, hR⟩ := Ci h0 h hs
       exact parse_reads hR h (by omega) hP hF
open Classical in
noncomputable def rpW : Rp := ⟨fun t => if h : ∃ r, r < 18446744073709551616 /\ Bb r = t then some (Dn h.choose) else none, fun t => ∃ r, r < 18446744073709551616 /\ Bb r = t⟩
open Classical in
theorem rpW_ok : RpOk rpW := ⟨fun r hr => by
 have hex : ∃ r', r' < 18446744073709551616 /\ Bb r' = Bb r := ⟨r, hr, rfl⟩
 show (if h : ∃ r', r' < 18446744073709551616 /\ Bb r' = Bb r then some (Dn h.choose) else none) = _
 rw [dif_pos hex]
 have hc := hex.choose_spec
 rw [text_inj hc.1 hr hc.2], fun r hr => ⟨r, hr, rfl⟩⟩
theorem envW {w : World} {s : ByteArray} (hN : Nums w) (hP : Par w) (hF : Flo w) : Env rpW w s := ⟨hN, fun W hb t ht => by
 obtain ⟨r, hr, e⟩ := ht
 subst e
 rw [rpW_ok.reads r hr]
 exact parse_text hr (s := ⟨(Bb r).toArray⟩) rfl (hP.below hb) (hF.below hb)⟩
theorem Buf.src {B n c m : Nat} {a : Option Addr} {w : World} {s : ByteArray} (h : Buf B w (.slice a n c) s) (hm : m <= s.size) : Src Tryz.prog 1 27 (sliced a 0 m c 1) m (Lib.strCells (s.extract 0 m)) w := by
 have hz : (s.extract 0 m).size = m := by rw [ByteArray.size_extract]; omega
 have hl : (Lib.strCells (s.extract 0 m)).length = m * 1 := by rw [Lib.strCells_length, hz, Nat.mul_one]
 rcases h with ⟨h1, h0⟩ | ⟨b, o, cap, h0, h1, h2, h3, h4, h5, h6⟩
 · cases h1
   have : m = 0 := by omega
   subst this
   have e : Lib.strCells (s.extract 0 0) = [] := List.length_eq_zero_iff.1 (by rw [hl])
   rw [e]
   exact Src.ofNil _ Tryz.underlying27 0
 · cases h0
   have e : sliced (some ⟨b, o, none⟩) 0 m c 1 = .slice (some ⟨b, o, none⟩) m c := by
     unfold sliced
     have : (some (⟨b, o, none⟩ : Addr)).map (·.add (0 * 1)) = some ⟨b, o, none⟩ := by rw [Option.map_some, Nat.zero_mul, add_zr, Nat.add_zero]
     rw [this, Nat.sub_zero, Nat.sub_zero]
     split <;> rfl
   rw [e]
   refine Src.ofSlice _ Tryz.underlying27 ⟨b, o, none⟩ m c _ hl (fun j u hj => ?_) (Lib.strCells_oneCell _)
   rw [add_zr]
   have hjm : j < m := by
     have := (List.getElem?_eq_some_iff.1 hj).1
     omega
   rw [h5 j (by omega), <- hj, cells_at _ j (by omega)]
   congr 3
   exact congrArg UInt8.toNat (by rw [ByteArray.getElem_extract]; simp)
theorem Row.src {B : Nat} {w : World} {v : Value} {s : ByteArray} (h : Row B w v s) (h0 : 0 < s.size) : Src Tryz.prog 1 27 v s.size (Lib.strCells s) w := by
 obtain ⟨ad, cap, hv, hl, hc⟩ := Reads.of_owns h.own
 have hp : 0 < (Lib.strCells s).length := by rw [Lib.strCells_length]; exact h0
 obtain ⟨b, o, ha, _⟩ := hc 0 _ (List.getElem?_eq_getElem hp)
 rw [hv, ha]
 refine Src.ofSlice _ Tryz.underlying27 ⟨b, o, none⟩ s.size cap _ (by rw [Lib.strCells_length, Nat.mul_one]) (fun j u hj => ?_) (Lib.strCells_oneCell s)
 obtain ⟨b', o', ha', hc'⟩ := hc j u hj
 rw [ha] at ha'
 cases ha'
 rw [add_zr]; exact hc'
theorem bytes_to (a : Option Addr) (n c l : Nat) (h : l <= c) (W : World) : (Instr.slice 27 (.slice a n c) none (some (.int .i64 (l : Int))) none).run Tryz.prog W = .ok (sliced a 0 l c 1) W := by
 have hz : (sizeOf (Tryz.prog.elem 27)).run Tryz.prog W = .ok 1 W := by kernel_rfl
 rw [run_slice_h W _ _ _ _ (by kernel_rfl) _ _ (by omega) (by omega), hz]; rfl
structure InList (w : World) (a : Option Addr) (l : List V) : Prop where
 at_ : ∀ j (h : j < l.length), ∃ (b o : Nat) (ad : Option Addr) (ca : Nat), a = some ⟨b, o, none⟩ /\ w.rangeAt b (o + j * 6) [.int .i64 l[j].kind, .string l[j].text, .int .i64 l[j].int, .float .f64 l[j].real, .bool l[j].flag, .slice ad l[j].list.length ca] /\ RV w.cell? (Am l[j].kind l[j].text l[j].int l[j].real l[j].flag ad l[j].list.length ca) l[j]
theorem InList.of {w : World} {a : Option Addr} {n cap : Nat} {l : List V} (h : RV w.cell? (Am 5 ⟨#[]⟩ 0 0 false a n cap) (.mk 5 ⟨#[]⟩ 0 0 false l)) : n = l.length /\ InList w a l := by
 obtain ⟨a', cap', css, e, hl, hr, hx⟩ := h.out
 have e1 : a = a' /\ n = l.length /\ cap = cap' := by
   have := congrArg (fun x : List Value => x[5]?) e
   simp [Am, V.list] at this
   exact this
 obtain ⟨rfl, rfl, rfl⟩ := e1
 refine ⟨rfl, ⟨fun j hj => ?_⟩⟩
 have hj2 : j < css.length := by rw [hl]; exact hj
 have h1 := List.getElem?_eq_getElem hj2
 obtain ⟨b, o, ha, hc⟩ := hr j _ h1
 have h2 := hx j _ l[j] h1 (List.getElem?_eq_getElem hj)
 obtain ⟨ad, ca, _, e2, _⟩ := h2.out
 refine ⟨b, o, ad, ca, ha, fun q u hq => hc q u ?_, by rw [<- e2]; exact h2⟩
 rw [e2]; exact hq
theorem InList.below {w w' : World} {a : Option Addr} {l : List V} (h : InList w a l) (hb : Below w.heap.size w w') : InList w' a l := ⟨fun j hj => by
 obtain ⟨b, o, ad, ca, h1, h2, h3⟩ := h.at_ j hj
 exact ⟨b, o, ad, ca, h1, fun q u hq => Aa hb _ _ (h2 q u hq), h3.mono (Aa hb)⟩⟩
theorem wireL_take {l : List V} {j : Nat} (h : j < l.length) : V.wireL (l.take (j + 1)) = V.wireL (l.take j) ++ l[j].wire := by
 rw [List.take_succ_eq_append_getElem h, V.wireL_snoc]
theorem wireL_size {l : List V} (h : ∀ x ∈ l, x.fine 8 = true /\ x.count <= 1000) (hr : V.rangedL l) : (V.wireL l).length <= 5000000 * l.length := by
 induction l with
 | nil => exact Nat.zero_le _
 | cons x l ih =>
   have h1 := h x (List.mem_cons_self ..)
   have h2 := (Eu x 8 h1.1 hr.1 (by omega)).2
   have h3 := ih (fun y hy => h y (List.mem_cons_of_mem _ hy)) hr.2
   rw [V.wireL, List.length_append, List.length_cons]
   have : 5000 * x.count <= 5000000 := by omega
   omega
theorem rangedL_take {l : List V} (h : V.rangedL l) (j : Nat) : V.rangedL (l.take j) := Cv fun x hx => V.rangedL_mem h x (List.mem_of_mem_take hx)
theorem bits_bits (r : Nat) : A2 (A2 r) = A2 r := by
 by_cases h : nanB r = true
 · have e : A2 r = 9221120237041090561 := by unfold A2; rw [if_pos h]
   rw [e]
   decide +kernel
 · have e : A2 r = r := by unfold A2; rw [if_neg h]
   rw [e, e]
theorem norm_norm (v : V) : v.norm.norm = v.norm := by
 induction v using V.ind with
 | h v ih =>
   obtain ⟨k, t, i, r, f, l⟩ := v
   rw [F5, F5, bits_bits, List.map_map]
   congr 1
   exact List.map_congr_left fun x hx => ih x hx
theorem own_sliced {a : Option Addr} {l n c n' c' k : Nat} (h : (sliced a l n c 1).ownBlock = some k) : (Value.slice a n' c').ownBlock = some k := by
 unfold sliced at h
 split at h
 · cases a <;> exact h
 · cases a with
   | none => cases h
   | some ad =>
     have e : (ad.add (l * 1)).block = k := by simpa [Value.ownBlock] using h
     have e2 : (ad.add (l * 1)).block = ad.block := by unfold Addr.add; split <;> rfl
     rw [e2] at e
     show some ad.block = some k
     rw [e]
theorem wireL_drop_le (l : List V) (K : Nat) : (V.wireL (l.drop K)).length <= (V.wireL l).length := by
 conv => rhs; rw [<- List.take_append_drop K l, V.wireL_append]
 rw [List.length_append]; omega
def sliceN : Value -> Nat | .slice _ n _ => n | _ => 0
theorem sliceN_slice (a : Option Addr) (n c : Nat) : sliceN (.slice a n c) = n := rfl
theorem norm_count (v : V) : v.norm.count = v.count := by
 induction v using V.ind with
 | h v ih =>
   obtain ⟨k, t, i, r, f, l⟩ := v
   rw [F5]
   simp only [V.count]
   congr 1
   have key : ∀ l : List V, (∀ x ∈ l, x.norm.count = x.count) -> V.countL (l.map V.norm) = V.countL l := by
     intro l
     induction l with
     | nil => intro _; rfl
     | cons x l ihl =>
       intro h
       rw [List.map_cons]
       simp only [V.countL]
       rw [h x (List.mem_cons_self ..), ihl fun y hy => h y (List.mem_cons_of_mem _ hy)]
   exact key l ih
def Stuck (l : List V) (K : Nat) (R : List UInt8) : Prop := (K = l.length /\ R = []) \/ ∃ h : K < l.length, Part R l[K].wire
theorem wireL_drop {l : List V} {K : Nat} (h : K < l.length) : V.wireL (l.drop K) = l[K].wire ++ V.wireL (l.drop (K + 1)) := by
 rw [List.drop_eq_getElem_cons h, V.wireL]
theorem stuck_end {l : List V} {K : Nat} {R : List UInt8} (hK : K <= l.length) (hs : Stuck l K R) (h : R = V.wireL (l.drop K)) : K = l.length /\ R = [] := by
 rcases hs with hs | ⟨hlt, q, hq, e⟩
 · exact hs
 · rw [wireL_drop hlt] at h
   have h1 := congrArg List.length h
   have h2 := congrArg List.length e
   have h3 : 0 < q.length := List.length_pos_iff.2 hq
   simp only [List.length_append] at h1 h2
   omega
theorem whole_or {R S a b : List UInt8} (h : R ++ S = a ++ b) : (∃ R2, R = a ++ R2 /\ R2 ++ S = b) \/ Part R a := by
 rcases List.append_eq_append_iff.1 h with ⟨c, h1, h2⟩ | ⟨c, h1, h2⟩
 · by_cases hc : c = []
   · subst hc
     left
     exact ⟨[], by simpa using h1.symm, by simpa using h2⟩
   · exact .inr ⟨c, hc, h1⟩
 · exact .inl ⟨c, h1, h2.symm⟩
set_option maxRecDepth 100000 in
set_option maxHeartbeats 6400000 in
theorem backL_any {l : List V} {a0 : Option Addr} {n cap0 : Nat} {pc : Int} {w : World} (hl : InList w a0 l) (hn : n = l.length) (hs : V.sizedL l) (hr : V.rangedL l) (hN : Nums w) (hP : Par w) (hF : Flo w) :
   Calls Tryz.prog 11 #[.slice a0 n cap0, .int .i64 pc] w fun e w' => e = .returned (.bool true) /\ Below w.heap.size w w' := by
 replace hn := Hd hn
 replace hl := Hd hl
 replace hs := Hd hs
 replace hr := Hd hr
 replace hN := Hd hN
 replace hP := Hd hP
 replace hF := Hd hF
 go_enter Tryz.func11, Tryz.ntmps11
 go_wp2_with fail
 refine (alive05_any hN.out).mono ?_
 rintro e w1 ⟨rfl, hb1⟩
 by_cases h10 : 10 < n
 · have h10i : (10 : Int) < (n : Int) := by omega
   replace hb1 := Hd hb1
   go_wp2
   go_ret
   exact ⟨rfl, hb1.out⟩
 have h10i : ¬ (10 : Int) < (n : Int) := by omega
 obtain ⟨w2, hw2⟩ : ∃ W, W = w1.alloc (.cells #[] 5) := ⟨_, rfl⟩
 have hb12 : Below w1.heap.size w1 w2 := by rw [hw2]; exact (Below.refl _ _).alloc (Nat.le_refl _) _
 have hb2 := hb1.trans (hb12.mono hb1.size)
 have hbuf : Buf w.heap.size w2 (.slice (some ⟨w1.heap.size, 0, none⟩) 0 0) ⟨(V.wireL (l.take 0)).toArray⟩ := .inr ⟨w1.heap.size, 0, 0, rfl, hb1.size, by rw [hw2]; simp, Nat.le_refl _, Nat.zero_le _, fun i hi => absurd hi (Nat.not_lt_zero _), fun j _ hj => absurd hj (Nat.not_lt_zero _)⟩
 clear hb12 hb1
 replace hw2 := Hd hw2
 replace hb2 := Hd hb2
 replace hbuf := Hd hbuf
 go_upto_region 6 with fail
 rw [<- hw2.out]
 go_wp2_with fail
 go_loopw [5, 23] (fun bv i wr => ∃ (j : Nat), j <= n /\ i = .int .i64 j /\ Buf w.heap.size wr bv ⟨(V.wireL (l.take j)).toArray⟩ /\ Below w.heap.size w wr /\ ∀ x ∈ l.take j, x.fine 8 = true /\ x.count <= 1000) (fun _ i _ => n - (intOf i).toNat)
 case atStart => exact ⟨0, Nat.zero_le _, rfl, hbuf.out, hb2.out, fun x hx => by simp at hx⟩
 case round =>
   obtain ⟨j, hj, rfl, hbj, hbw, hok⟩ := hrel
   by_cases hlt : j < n
   · have hlti : (j : Int) < (n : Int) := by omega
     have hjl : j < l.length := by rw [<- hn.out]; exact hlt
     obtain ⟨b0, o0, ad, ca, e0, hcs, hrv⟩ := (hl.out.below (hbw.mono (Nat.le_refl _))).at_ j hjl
     obtain ⟨x, hx⟩ : ∃ x, x = l[j] := ⟨_, rfl⟩
     rw [<- hx] at hcs hrv
     subst e0
     have hxl := hx
     replace hx := Hd hx
     have sx : x.sized := by rw [hxl]; exact V.sizedL_mem hs.out _ (List.getElem_mem hjl)
     have rx : x.ranged := by rw [hxl]; exact V.rangedL_mem hr.out _ (List.getElem_mem hjl)
     have hv := new_val wr 26 [.int .i64 x.kind, .string x.text, .int .i64 x.int, .float .f64 x.real, .bool x.flag, .slice ad x.list.length ca] rfl
     have hth := Em wr 26
     have hNr := hN.out.below hbw
     have hPr := hP.out.below hbw
     have hFr := hF.out.below hbw
     clear hxl
     replace hv := Hd hv
     replace hth := Hd hth
     replace hcs := Hd hcs
     replace hrv := Hd hrv
     replace hbj := Hd hbj
     replace hbw := Hd hbw
     replace hok := Hd hok
     replace sx := Hd sx
     replace rx := Hd rx
     replace hNr := Hd hNr
     replace hFr := Hd hFr
     clear hPr
     have tok1 : True := trivial
     have tok2 : True := trivial
     go_upto_region 9 with (first
       | (have _t := tok1; refine wpList_load_mid rfl 26 _ rfl b0 (o0 + j * 6) rfl _ _ hcs.out Tryz.underlying26 rfl Ag ?_; clear tok1 _t)
       | (have _t := tok2; refine wpList_store_mid rfl 26 _ _ rfl wr.heap.size 0 _ rfl rfl hth.out Ag (one6 _ _ _ _ _ _ _ _) ?_; clear tok2 _t))
     generalize (wr.alloc (.cells #[Value.int .i64 0, .string ⟨#[]⟩, .int .i64 0, .float .f64 0, .bool false, .slice none 0 0] 26)).setCells wr.heap.size 0 [Value.int .i64 x.kind, .string x.text, .int .i64 x.int, .float .f64 x.real, .bool x.flag, .slice ad x.list.length ca] = w3 at hv ⊢
     obtain ⟨hb3, rv, _⟩ := hv.out
     have hrv3 := hrv.out.mono (Aa hb3)
     clear hv hth hcs hrv
     replace rv := Hd rv
     replace hb3 := Hd hb3
     replace hrv3 := Hd hrv3
     have g0 := Aa (Below.refl _ w3) _ _ (rv.out 0 _ rfl)
     have g1 := Aa (Below.refl _ w3) _ _ (rv.out 1 _ rfl)
     have g2 := Aa (Below.refl _ w3) _ _ (rv.out 2 _ rfl)
     have g3 := Aa (Below.refl _ w3) _ _ (rv.out 3 _ rfl)
     have g4 := Aa (Below.refl _ w3) _ _ (rv.out 4 _ rfl)
     have g5 := Aa (Below.refl _ w3) _ _ (rv.out 5 _ rfl)
     simp only [Nat.zero_add] at g0 g1 g2 g3 g4 g5
     go_wp2_with fail
     refine (small_any hrv3.out).mono ?_
     rintro e w4 ⟨b1, rfl, k1, hb4⟩
     cases b1 with
     | false =>
       clear g0 g1 g2 g3 g4 g5 k1
       have hbe := hbw.out.trans ((hb3.out.trans (hb4.mono hb3.out.size)).mono hbw.out.size)
       replace hbe := Hd hbe
       replace hb4 := Hd hb4
       go_wp2
       go_ret
       exact ⟨rfl, hbe.out⟩
     | true =>
     have cx := (k1 rfl).1
     clear g0 g1 g2 g3 g4 g5 k1
     have g0 := Aa hb4 _ _ (rv.out 0 _ rfl)
     have g1 := Aa hb4 _ _ (rv.out 1 _ rfl)
     have g2 := Aa hb4 _ _ (rv.out 2 _ rfl)
     have g3 := Aa hb4 _ _ (rv.out 3 _ rfl)
     have g4 := Aa hb4 _ _ (rv.out 4 _ rfl)
     have g5 := Aa hb4 _ _ (rv.out 5 _ rfl)
     simp only [Nat.zero_add] at g0 g1 g2 g3 g4 g5
     have hrv4 := hrv3.out.mono (Aa hb4)
     replace hrv4 := Hd hrv4
     replace hb4 := Hd hb4
     go_wp2_with fail
     refine (rright_any x ad ca w4 hrv4.out sx.out (by omega)).mono ?_
     rintro e w5 ⟨rfl, hb5⟩
     have hb35 := hb4.out.trans (hb5.mono hb4.out.size)
     have hbr5 := hb3.out.trans (hb35.mono hb3.out.size)
     have hbe := hbw.out.trans (hbr5.mono hbw.out.size)
     obtain ⟨r1, hr1⟩ : ∃ r1, r1 = D0 x := ⟨_, rfl⟩
     rw [<- hr1]
     clear g0 g1 g2 g3 g4 g5
     cases r1 with
     | false =>
       replace hbe := Hd hbe
       replace hb35 := Hd hb35
       replace hbr5 := Hd hbr5
       replace hb5 := Hd hb5
       replace hr1 := Hd hr1
       go_wp2
       go_ret
       exact ⟨rfl, hbe.out⟩
     | true =>
     have fx := checkZ_fine hr1.symm
     clear hr1 hb5 hrv4 hb4 cx
     have g0 := Aa hb35 _ _ (rv.out 0 _ rfl)
     have g1 := Aa hb35 _ _ (rv.out 1 _ rfl)
     have g2 := Aa hb35 _ _ (rv.out 2 _ rfl)
     have g3 := Aa hb35 _ _ (rv.out 3 _ rfl)
     have g4 := Aa hb35 _ _ (rv.out 4 _ rfl)
     have g5 := Aa hb35 _ _ (rv.out 5 _ rfl)
     simp only [Nat.zero_add] at g0 g1 g2 g3 g4 g5
     have hrv5 := hrv3.out.mono (Aa hb35)
     have hL5 : LaidV w5.heap.size w5 := ((LaidV.of hN.out hF.out).below hbe (Nat.le_refl _)).mono hbe.size
     have hbuf5 := hbj.out.below hbr5
     replace hrv5 := Hd hrv5
     replace hL5 := Hd hL5
     replace hbuf5 := Hd hbuf5
     replace hbe := Hd hbe
     replace hbr5 := Hd hbr5
     replace hb35 := Hd hb35
     replace fx := Hd fx
     clear hbj hrv3 hNr hFr
     go_wp2_with fail
     refine (bytes3_any x ad ca 8 w5 hrv5.out fx.out.1 rx.out (by have := fx.out.2; omega) hL5.out).mono ?_
     rintro e w6 ⟨vb, rfl, hrow, hb6⟩
     have hbuf6 := hbuf5.out.below hb6
     have hbe6 := hbe.out.trans (hb6.mono hbe.out.size)
     have hx0 : 0 < (⟨x.wire.toArray⟩ : ByteArray).size := by rw [wire_ba_size]; have := (Eu x 8 fx.out.1 rx.out (by have := fx.out.2; omega)).1; omega
     have hsrc := hrow.src hx0
     have hsz1 : (⟨x.wire.toArray⟩ : ByteArray).size <= 5000000 := by rw [wire_ba_size]; have := (Eu x 8 fx.out.1 rx.out (by have := fx.out.2; omega)).2; have := fx.out.2; omega
     have hsz2 : (⟨(V.wireL (l.take j)).toArray⟩ : ByteArray).size <= 50000000 := by
       have h9 := wireL_size hok.out (rangedL_take hr.out j)
       rw [show (⟨(V.wireL (l.take j)).toArray⟩ : ByteArray).size = (V.wireL (l.take j)).length from El _]
       rw [List.length_take] at h9
       have : 5000000 * min j l.length <= 5000000 * 10 := Nat.mul_le_mul_left _ (by omega)
       omega
     have hsz3 : (⟨(V.wireL (l.take j)).toArray⟩ : ByteArray).size + (⟨x.wire.toArray⟩ : ByteArray).size <= 140737488355328 := by omega
     have hle6 : w.heap.size <= w6.heap.size := hbe6.size
     have heq : (⟨(V.wireL (l.take j)).toArray⟩ : ByteArray) ++ (⟨x.wire.toArray⟩ : ByteArray) = ⟨(V.wireL (l.take (j + 1))).toArray⟩ := by
       apply ByteArray.ext
       apply Array.toList_inj.1
       rw [ByteArray.data_append, Array.toList_append, wireL_take hjl, hx.out]
     have hok2 : ∀ y ∈ l.take (j + 1), y.fine 8 = true /\ y.count <= 1000 := fun y hy => by
       rw [List.take_succ_eq_append_getElem hjl] at hy
       rcases List.mem_append.1 hy with hy | hy
       · exact hok.out y hy
       · rw [List.mem_singleton] at hy
         rw [hy, <- hx.out]; exact fx.out
     clear g0 g1 g2 g3 g4 g5 hsz1 hsz2 hx0 hrow hb6 hrv5 hL5 hbuf5 hok
     generalize (⟨x.wire.toArray⟩ : ByteArray) = xw at *
     generalize (⟨(V.wireL (l.take j)).toArray⟩ : ByteArray) = xs at *
     replace hbuf6 := Hd hbuf6
     replace hsrc := Hd hsrc
     replace hbe6 := Hd hbe6
     replace heq := Hd heq
     replace hok2 := Hd hok2
     go_wp2_with (at_builtin; refine append_buf rfl rfl rfl hbuf6.out rfl hsrc.out hsz3 hle6 ?_)
     intro v7 w7 hb7 hf7
     rw [heq.out] at hb7
     have hbe7 := hbe6.out.trans (hf7.below hle6 (fun i hi h => by omega))
     obtain ⟨a7, c7, rfl, _⟩ := hb7.shape
     clear hf7
     replace hb7 := Hd hb7
     replace hbe7 := Hd hbe7
     go_wp2_with fail
     go_roundw
     case rel => exact ⟨j + 1, by omega, by first | rfl | go_num, hb7.out, hbe7.out, hok2.out⟩
     case measure => simp [intOf]; omega
   · have hje : j = n := by omega
     have hlti : ¬ (j : Int) < (n : Int) := by omega
     rw [hje, hn.out, List.take_length] at hbj hok
     obtain ⟨s0, hs0⟩ : ∃ s : ByteArray, s = ⟨(V.wireL l).toArray⟩ := ⟨_, rfl⟩
     rw [<- hs0] at hbj
     obtain ⟨ab, cb, rfl, hcb⟩ := hbj.shape
     obtain ⟨N0, hN0⟩ : ∃ N0, N0 = s0.size := ⟨_, rfl⟩
     rw [<- hN0] at hbj hcb ⊢
     replace hN0 := Hd hN0
     replace hs0 := Hd hs0
     replace hbj := Hd hbj
     replace hbw := Hd hbw
     replace hok := Hd hok
     by_cases h5 : 5000 < N0
     · have h5i : (5000 : Int) < (N0 : Int) := by omega
       go_wp2
       go_ret
       exact ⟨rfl, hbw.out⟩
     have h5i : ¬ (5000 : Int) < (N0 : Int) := by omega
     obtain ⟨z, hz⟩ : ∃ z : Nat, max (1 : Int) (min pc 100) = (z : Int) := ⟨(max (1 : Int) (min pc 100)).toNat, by omega⟩
     have hz1 : 1 <= z /\ z <= 100 := by omega
     go_wp2_with fail
     obtain ⟨w7, hw7⟩ : ∃ W, W = wr.alloc (.cells #[.slice none 0 0, .int .i64 0] 74) := ⟨_, rfl⟩
     have hb67 : Below wr.heap.size wr w7 := by rw [hw7]; exact (Below.refl _ _).alloc (Nat.le_refl _) _
     have hR0 := rdr_new wr
     rw [<- hw7] at hR0
     obtain ⟨r, hr0⟩ : ∃ r, r = wr.heap.size := ⟨_, rfl⟩
     rw [<- hr0] at hR0
     have hbk : ∀ k, (Value.slice ab N0 cb).ownBlock = some k -> k < r := fun k hk => by rw [hr0]; exact (hbj.out.block k hk).2
     have hwr0 : w.heap.size <= r := by rw [hr0]; exact hbw.out.size
     have hbuf7 := hbj.out.below hb67
     have hbw7 := hbw.out.trans (hb67.mono hbw.out.size)
     refine (new_any wr).mono ?_
     rintro e w' ⟨rfl, hww⟩
     rw [<- hw7] at hww
     obtain rfl := hww.symm
     clear hww hb67 hbj hbw
     rw [<- hr0]
     replace hw7 := Hd hw7
     replace hr0 := Hd hr0
     replace hR0 := Hd hR0
     replace hbk := Hd hbk
     replace hbuf7 := Hd hbuf7
     replace hbw7 := Hd hbw7
     replace hz := Hd hz
     go_wp2_with fail
     go_loopw [5, 10] (fun bv kv wr => ∃ (sb R : ByteArray) (K : Nat) (v : Value), K <= n /\ kv = .int .i64 K /\ Buf w.heap.size wr bv sb /\ (∀ k, bv.ownBlock = some k -> k < r) /\ Rdr (r + 1) wr r v R 0 /\ Below w.heap.size w wr /\ R.data.toList ++ sb.data.toList = V.wireL (l.drop K) /\ Stuck l K R.data.toList) (fun bv _ _ => sliceN bv)
     case atStart =>
       refine ⟨s0, ⟨#[]⟩, 0, _, Nat.zero_le _, rfl, ?_, hbk.out, hR0.out, hbw7.out, by rw [List.drop_zero, hs0.out]; rfl, ?_⟩
       · exact hbuf7.out
       · rcases Nat.eq_zero_or_pos l.length with h0 | h0
         · exact .inl ⟨h0.symm, rfl⟩
         · refine .inr ⟨h0, l[0].wire, ?_, rfl⟩
           have f0 := hok.out l[0] (List.getElem_mem h0)
           have := (Eu l[0] 8 f0.1 (V.rangedL_mem hr.out _ (List.getElem_mem h0)) (by omega)).1
           intro e
           rw [e] at this
           simp at this
     case round =>
       obtain ⟨sb, R, K, v9, hK, rfl, hbuf, hbk9, hrd, hbw, hcat, hst⟩ := hrel
       obtain ⟨a9, c9, rfl, hc9⟩ := hbuf.shape
       obtain ⟨N, hNs⟩ : ∃ N, N = sb.size := ⟨_, rfl⟩
       rw [<- hNs] at hbuf hbk9 hc9 ⊢
       have hcatl := congrArg List.length hcat
       clear hR0 hbuf7 hbw7 hbk
       by_cases h0 : 0 < N
       · have h0i : (0 : Int) < (N : Int) := by omega
         obtain ⟨m, hm⟩ : ∃ m : Nat, min (z : Int) (N : Int) = (m : Int) := ⟨(min (z : Int) (N : Int)).toNat, by omega⟩
         have hm1 : 1 <= m /\ m <= N := by omega
         have hto := bytes_to a9 N c9 m (by omega)
         have hfrom := bytes_from a9 N c9 m (by omega)
         have hsrc0 := hbuf.src (m := m) (by omega)
         have hdrop := (hbuf.drop (u := m) (by omega)).2
         have hown := fun k (hk : (sliced a9 m N c9 1).ownBlock = some k) => hbk9 k (own_sliced hk)
         obtain ⟨a1, n1, c1, e1⟩ : ∃ a1 n1 c1, sliced a9 0 m c9 1 = .slice a1 n1 c1 := ⟨_, _, _, rfl⟩
         obtain ⟨a2, n2, c2, e2⟩ : ∃ a2 n2 c2, sliced a9 m N c9 1 = .slice a2 n2 c2 := ⟨_, _, _, rfl⟩
         rw [e1] at hto hsrc0
         rw [e2] at hfrom hdrop hown
         have hzt : (sb.extract 0 m).size = m := by rw [ByteArray.size_extract]; omega
         have hsrc : Src Tryz.prog 1 27 (.slice a1 n1 c1) (sb.extract 0 m).size (Lib.strCells (sb.extract 0 m)) wr := by rw [hzt]; exact hsrc0
         have hn2 : n2 = N - m := by
           have := hdrop.shape
           obtain ⟨a, c, h1, _⟩ := this
           cases h1
           rw [ByteArray.size_extract]; omega
         have hlen : R.size + N <= 5000 := by
           have h1 := wireL_drop_le l K
           have h2 := hN0.out
           rw [hs0.out, show (⟨(V.wireL l).toArray⟩ : ByteArray).size = (V.wireL l).length from El _] at h2
           rw [List.length_append, <- Ak, <- Ak] at hcatl
           omega
         have hsplit : (sb.extract 0 m).data.toList ++ (sb.extract m sb.size).data.toList = sb.data.toList := by
           rw [drop_list, ByteArray.data_extract, Array.toList_extract, List.extract_eq_take_drop, List.drop_zero, Nat.sub_zero, List.take_append_drop]
         have hcat2 : (R ++ sb.extract 0 m).data.toList ++ (sb.extract m sb.size).data.toList = V.wireL (l.drop K) := by
           rw [ByteArray.data_append, Array.toList_append, List.append_assoc, hsplit, hcat]
         have hlen2 : (R ++ sb.extract 0 m).size <= 5000 := by rw [ByteArray.size_append, hzt]; omega
         have hlen3 : R.size + (sb.extract 0 m).size <= 1000000000 := by omega
         clear e1 e2 hsrc0 hsplit hcat hcatl hst hbuf hzt
         replace hrd := Hd hrd
         replace hsrc := Hd hsrc
         replace hdrop := Hd hdrop
         replace hown := Hd hown
         replace hcat2 := Hd hcat2
         replace hlen2 := Hd hlen2
         replace hbw := Hd hbw
         replace hn2 := Hd hn2
         replace hm := Hd hm
         replace hNs := Hd hNs
         have hm := hm.out
         go_wp2_with fail
         refine (feed_ok hrd.out hsrc.out hlen3).mono ?_
         rintro e w2 ⟨v2, rfl, hrd2, hf⟩
         have hbuf2 := hdrop.out.fr hf (fun k hk e => by have := hown.out k hk; rcases e with e | e <;> omega)
         have hbw2 := hbw.out.trans (hf.below hbw.out.size (fun i hi e => by rcases e with e | e <;> omega))
         generalize R ++ sb.extract 0 m = R2 at hcat2 hlen2 hrd2
         generalize sb.extract m sb.size = sb2 at hcat2 hbuf2
         clear hf hdrop hrd hsrc hbw hto hlen3
         replace hrd2 := Hd hrd2
         replace hbuf2 := Hd hbuf2
         replace hbw2 := Hd hbw2
         go_wp2_with fail
         go_loopw [10] (fun kv wr => ∃ (R : ByteArray) (K : Nat) (v : Value), K <= n /\ kv = .int .i64 K /\ Buf w.heap.size wr (.slice a2 n2 c2) sb2 /\ Rdr (r + 1) wr r v R 0 /\ Below w.heap.size w wr /\ R.data.toList ++ sb2.data.toList = V.wireL (l.drop K) /\ R.size <= 5000) (fun kv _ => n - (intOf kv).toNat)
         case atStart => exact ⟨R2, K, v2, hK, rfl, hbuf2.out, hrd2.out, hbw2.out, hcat2.out, hlen2.out⟩
         case round =>
           obtain ⟨R3, K3, v3, hK3, rfl, hbuf3, hrd3, hbw3, hcat3, hlen3⟩ := hrel
           clear hbuf2 hrd2 hbw2 hcat2 hlen2
           have hN3 := hN.out.below hbw3
           have hE3 : Env rpW wr R3 := envW hN3 (hP.out.below hbw3) (hF.out.below hbw3)
           by_cases hlt : K3 < n /\ ∃ h : K3 < l.length, ∃ R4, R3.data.toList = l[K3].wire ++ R4
           · obtain ⟨hltn, hKl, R4, hR4⟩ := hlt
             obtain ⟨b0, o0, ad, ca, e0, hcs, hrv⟩ := (hl.out.below hbw3).at_ K3 hKl
             obtain ⟨b0', o0', ad', ca', e0', hcs', _⟩ := hl.out.at_ K3 hKl
             have hb0w : b0 < w.heap.size := by
               have e1 : b0 = b0' := by rw [e0] at e0'; cases e0'; rfl
               rw [e1]; exact World.block_lt_of_cell? _ _ (hcs' 0 _ rfl)
             clear e0' hcs'
             obtain ⟨x, hx⟩ : ∃ x, x = l[K3] := ⟨_, rfl⟩
             have f0 := hok.out l[K3] (List.getElem_mem hKl)
             have rx := V.rangedL_mem hr.out _ (List.getElem_mem hKl)
             have hcat4 := hcat3
             rw [wireL_drop hKl, hR4, List.append_assoc] at hcat4
             have hcat4 := List.append_cancel_left hcat4
             rw [<- hx] at hcs hrv f0 rx hR4
             subst e0
             obtain ⟨s1, s2⟩ := scan_wire rpW_ok x 8 1 R4 f0.1 rx (fun _ => Nat.le_refl _) (by omega)
             rw [<- hR4] at s1 s2
             have hwl := (Eu x 8 f0.1 rx (by omega)).1
             have hR3s : R3.size = x.wire.length + R4.length := by rw [Ak, hR4, List.length_append]
             have hnc : x.norm.count = x.count := norm_count x
             obtain ⟨y, hy⟩ : ∃ y, y = x.norm := ⟨_, rfl⟩
             rw [<- hy] at s1 hnc
             have hyn : y.norm = x.norm := by rw [hy]; exact norm_norm x
             have hyc : y.count <= 100000000 := by omega
             have hnx := next_got hrd3 (u := x.wire.length) (by omega) (by omega) (by omega) hE3 s2 s1
             have hR4l : (R3.extract x.wire.length R3.size).data.toList = R4 := by rw [drop_list, hR4, List.drop_left]
             have hR4s : (R3.extract x.wire.length R3.size).size <= 5000 := by rw [Ak, hR4l]; omega
             generalize R3.extract x.wire.length R3.size = R5 at hnx hR4l hR4s
             rw [<- hR4l] at hcat4
             have hgei : ¬ ((n : Int) <= (K3 : Int)) := by omega
             have hgeb : decide (n <= K3) = false := decide_eq_false (by omega)
             have hgeN : ¬ (n <= K3) := by omega
             clear s1 s2 hE3 hN3 hrd3 hcat3 hR4l hR3s hwl hy f0 rx hnc
             replace hnx := Hd hnx
             replace hcat4 := Hd hcat4
             replace hbuf3 := Hd hbuf3
             replace hbw3 := Hd hbw3
             replace hcs := Hd hcs
             replace hrv := Hd hrv
             replace hR4 := Hd hR4
             replace hx := Hd hx
             replace hyn := Hd hyn
             replace hR4s := Hd hR4s
             go_wp2_with fail
             refine hnx.out.mono ?_
             rintro e w4 ⟨ad4, ca4, rfl, hrv4, ⟨v4, hrd4⟩, hf⟩
             have hbw4 := hbw3.out.trans (hf.below hbw3.out.size (fun i hi e => by omega))
             have hbuf4 := hbuf3.out.fr hf (fun k hk e => by have := hown.out k hk; omega)
             have hrvy := hrv4.mono newer_all
             have hv := new_val w4 26 [.int .i64 y.kind, .string y.text, .int .i64 y.int, .float .f64 y.real, .bool y.flag, .slice ad4 y.list.length ca4] rfl
             have hth := Em w4 26
             clear hf hnx hbuf3 hbw3 hrv4 hcs hrv
             replace hrd4 := Hd hrd4
             replace hbw4 := Hd hbw4
             replace hbuf4 := Hd hbuf4
             replace hrvy := Hd hrvy
             replace hv := Hd hv
             replace hth := Hd hth
             have tok1 : True := trivial
             go_upto_region 23 with (have _t := tok1; refine wpList_store_mid rfl 26 _ _ rfl w4.heap.size 0 _ rfl rfl hth.out Ag (one6 _ _ _ _ _ _ _ _) ?_; clear tok1 _t)
             generalize (w4.alloc (.cells #[Value.int .i64 0, .string ⟨#[]⟩, .int .i64 0, .float .f64 0, .bool false, .slice none 0 0] 26)).setCells w4.heap.size 0 [Value.int .i64 y.kind, .string y.text, .int .i64 y.int, .float .f64 y.real, .bool y.flag, .slice ad4 y.list.length ca4] = w5 at hv ⊢
             obtain ⟨hb45, rv, _⟩ := hv.out
             have hrd5 := hrd4.out.below hb45
             have hbuf5 := hbuf4.out.below hb45
             have hbw5 := hbw4.out.trans (hb45.mono hbw4.out.size)
             have hrvy5 := hrvy.out.mono (Aa hb45)
             obtain ⟨b0', o0', ad, ca, e0, hcs, hrv⟩ := (hl.out.below hbw5).at_ K3 hKl
             cases e0
             rw [<- hx.out] at hcs hrv
             have g0 := rv 0 _ rfl
             have g1 := rv 1 _ rfl
             have g2 := rv 2 _ rfl
             have g3 := rv 3 _ rfl
             have g4 := rv 4 _ rfl
             have g5 := rv 5 _ rfl
             have p0 := hcs 0 _ rfl
             have p1 := hcs 1 _ rfl
             have p2 := hcs 2 _ rfl
             have p3 := hcs 3 _ rfl
             have p4 := hcs 4 _ rfl
             have p5 := hcs 5 _ rfl
             simp only [Nat.zero_add, Nat.add_zero] at g0 g1 g2 g3 g4 g5 p0 p1 p2 p3 p4 p5
             have hl5 : w4.heap.size < w5.heap.size := World.block_lt_of_cell? _ _ g0
             have hl6 : b0 < w5.heap.size := World.block_lt_of_cell? _ _ p0
             clear hb45 hrd4 hbuf4 hbw4 hrvy hv hth rv hcs
             replace hrd5 := Hd hrd5
             replace hbuf5 := Hd hbuf5
             replace hbw5 := Hd hbw5
             replace hrvy5 := Hd hrvy5
             replace hrv := Hd hrv
             go_upto_region 26 with fail
             have hsame : ∀ W, Below w5.heap.size w5 W -> Calls Tryz.prog 19 #[.agg #[.int .i64 y.kind, .string y.text, .int .i64 y.int, .float .f64 y.real, .bool y.flag, .slice ad4 y.list.length ca4], .agg #[.int .i64 x.kind, .string x.text, .int .i64 x.int, .float .f64 x.real, .bool x.flag, .slice ad x.list.length ca]] W fun e w' => e = .returned (.bool true) /\ Below W.heap.size W w' := fun W hW =>
               (same03_any y x ad4 y.list.length ca4 ad x.list.length ca W (hrvy5.out.mono (Aa hW)) (hrv.out.mono (Aa hW)) hyc).mono fun e w' ⟨q, he, hq, hb⟩ => ⟨by rw [he, hq.2 hyn.out], hb⟩
             replace hsame := Hd hsame
             refine Ab (by kernel_rfl) (by kernel_rfl) ?_
             repeat (go_big_quiet_step ((go_at_call 19; (with_reducible refine Ah (hsame.out _ ?_)); exact Ad _ _)))
             refine wpQuiet_nil ?_
             rintro _ ⟨xq, rfl⟩
             have hS := Ad w5 xq
             obtain ⟨w6, hw6⟩ : ∃ W, W = grow w5 xq := ⟨_, rfl⟩
             rw [<- hw6] at hS ⊢
             replace hw6 := Hd hw6
             have hbw6 := hbw5.out.trans (hS.mono hbw5.out.size)
             have hrd6 := hrd5.out.below hS
             have hbuf6 := hbuf5.out.below hS
             clear hS hbw5 hrd5 hbuf5
             replace hbw6 := Hd hbw6
             replace hrd6 := Hd hrd6
             replace hbuf6 := Hd hbuf6
             clear g0 g1 g2 g3 g4 g5 p0 p1 p2 p3 p4 p5
             have hKz : (K3 : Int) + 1 <= 10 := by omega
             go_wp2_with fail
             go_roundw
             case rel => exact ⟨R5, K3 + 1, v4, by omega, by first | rfl | go_num, hbuf6.out, hrd6.out, hbw6.out, hcat4.out, hR4s.out⟩
             case measure => simp [intOf]; omega
           · have hpart : Ay rpW 8 1 R3.data.toList = .stop 0 /\ Cn rpW 8 1 R3.data.toList /\ Stuck l K3 R3.data.toList := by
               rcases Nat.lt_or_ge K3 l.length with hKl | hKl
               · rw [wireL_drop hKl] at hcat3
                 rcases whole_or hcat3 with ⟨R4, h1, _⟩ | h1
                 · exact absurd ⟨by rw [hn.out]; exact hKl, hKl, R4, h1⟩ hlt
                 · have f0 := hok.out l[K3] (List.getElem_mem hKl)
                   obtain ⟨s1, s2⟩ := scan_wait rpW_ok l[K3] 8 1 R3.data.toList f0.1 (V.rangedL_mem hr.out _ (List.getElem_mem hKl)) (fun _ => Nat.le_refl _) (by omega) h1
                   exact ⟨s1, s2, .inr ⟨hKl, h1⟩⟩
               · have hKe : K3 = l.length := by have := hn.out; omega
                 rw [hKe, List.drop_length] at hcat3
                 have hR0 : R3.data.toList = [] := (List.append_eq_nil_iff.1 hcat3).1
                 rw [hR0]
                 obtain ⟨s1, s2⟩ := scan_nil (rp := rpW) (lv := 8) (many := 1)
                 exact ⟨s1, s2, .inl ⟨hKe, rfl⟩⟩
             obtain ⟨s1, s2, s3⟩ := hpart
             have hnx := next_stop0 hrd3 (by omega) hE3 s2 s1
             clear hlt s1 s2 hE3 hN3 hrd3
             replace hnx := Hd hnx
             replace s3 := Hd s3
             replace hcat3 := Hd hcat3
             replace hbuf3 := Hd hbuf3
             replace hbw3 := Hd hbw3
             go_wp2_with fail
             refine hnx.out.mono ?_
             intro e w4 he
             obtain ⟨he, ⟨v4, hrd4⟩, hf⟩ := he
             have he : e = .returned (.tuple #[.agg #[.int .i64 0, .string ⟨#[]⟩, .int .i64 0, .float .f64 0, .bool false, .slice none 0 0], .bool false, .int .i64 0]) := he
             subst he
             have hbw4 := hbw3.out.trans (hf.below hbw3.out.size (fun i hi e => by omega))
             have hbuf4 := hbuf3.out.fr hf (fun k hk e => by have := hown.out k hk; omega)
             clear hf hnx hbuf3 hbw3
             replace hrd4 := Hd hrd4
             replace hbw4 := Hd hbw4
             replace hbuf4 := Hd hbuf4
             go_upto_region 23 with fail
             obtain ⟨w5, hw5⟩ : ∃ W, W = w4.alloc (.cells #[.int .i64 0, .string ⟨#[]⟩, .int .i64 0, .float .f64 0, .bool false, .slice none 0 0] 26) := ⟨_, rfl⟩
             rw [<- hw5]
             have hb45 : Below w4.heap.size w4 w5 := by rw [hw5]; exact (Below.refl _ _).alloc (Nat.le_refl _) _
             have hrd5 := hrd4.out.below hb45
             have hbuf5 := hbuf4.out.below hb45
             have hbw5 := hbw4.out.trans (hb45.mono hbw4.out.size)
             clear hb45 hrd4 hbuf4 hbw4
             replace hw5 := Hd hw5
             replace hrd5 := Hd hrd5
             replace hbuf5 := Hd hbuf5
             replace hbw5 := Hd hbw5
             go_wp2_with fail
             go_roundw
             case rel => exact ⟨sb2, R3, K3, v4, hK3, rfl, hbuf5.out, hown.out, hrd5.out, hbw5.out, hcat3.out, s3.out⟩
             case measure => rw [sliceN_slice, sliceN_slice]; have := hn2.out; omega
       · have h0i : ¬ (0 : Int) < (N : Int) := by omega
         have hsb : sb.data.toList = [] := List.length_eq_zero_iff.1 (by rw [<- Ak]; omega)
         rw [hsb, List.append_nil] at hcat
         obtain ⟨e1, e2⟩ := stuck_end (by rw [<- hn.out]; exact hK) hst hcat
         have hKn : ((K : Int) == (n : Int)) = true := by rw [hn.out, e1]; simp
         have hR0 : R.size = 0 := by rw [Ak, e2]; rfl
         obtain ⟨ar, cr, rfl, _⟩ := hrd.buf.shape
         rw [hR0] at hrd
         have hL := left_any hrd.c0
         clear hcat hcatl hst hsb hNs e1 e2 hR0
         replace hL := Hd hL
         replace hbw := Hd hbw
         replace hrd := Hd hrd
         replace hbuf := Hd hbuf
         go_wp2_with fail
         refine hL.out.mono ?_
         rintro e w' ⟨rfl, hww⟩
         obtain rfl := hww.symm
         clear hww
         go_wp2_with fail
         go_ret
         exact ⟨rfl, hbw.out⟩
end Go.Proofs.YtagkgfniihiinaaGreatDoor
