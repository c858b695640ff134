/- The number that a text is: Go's own parsing, the numeral, and the document's digit by digit are one. No program in sight. -/
import Derived.Test.YtagkgfniihiinaaGreatDoorBase
import Derived.Lib.ParseIntBTie
import Derived.Lib.ItoaNum
namespace Go.Proofs.YtagkgfniihiinaaGreatDoor
open Go.RowKit Go

/-- The number of digits, below 0: the document's reckoning. -/
def digs : List UInt8 → Int → Option Int
  | [], n => some n
  | c :: l, n => if (c.toNat : Int) - 48 < 0 ∨ 9 < (c.toNat : Int) - 48 then none else if n < -922337203685477580 ∨ n = -922337203685477580 ∧ 8 < (c.toNat : Int) - 48 then none else digs l (10 * n - ((c.toNat : Int) - 48))
def least : Int := -9223372036854775808
/-- Behind '-'. -/
def refM (t : List UInt8) : Option Int := if t.length = 0 ∨ 19 < t.length ∨ t.head? = some 48 then none else digs t 0
/-- Without a sign. -/
def refN (t : List UInt8) : Option Int := if t.length = 0 ∨ 19 < t.length ∨ t.head? = some 48 ∧ 1 < t.length then none else match digs t 0 with
  | some n => if n = least then none else some (-n)
  | none => none
def refP (l : List UInt8) : Option Int := if l.head? = some 45 then refM l.tail else refN l
/-- The program's: what Go parses, if its numeral is the text. -/
def wP (l : List UInt8) : Option Int := match Lib.atoiAll l with
  | .ok v => if Lib.itoa v = l then some v else none
  | _ => none

def dig (c : UInt8) : Prop := 48 ≤ c.toNat ∧ c.toNat ≤ 57
def step (a : Nat) (c : UInt8) : Nat := a * 10 + (c.toNat - 48)
def valF (a : Nat) (l : List UInt8) : Nat := l.foldl step a
theorem valF_cons (a : Nat) (c : UInt8) (l : List UInt8) : valF a (c :: l) = valF (a * 10 + (c.toNat - 48)) l := by unfold valF; rw [List.foldl_cons]; rfl
theorem valF_nil (a : Nat) : valF a [] = a := rfl
theorem valF_append : ∀ (l : List UInt8) (a : Nat) (m : List UInt8), valF a (l ++ m) = valF (valF a l) m
  | [], _, _ => rfl
  | c :: l, a, m => by rw [List.cons_append, valF_cons, valF_cons]; exact valF_append l _ m
theorem valF_le : ∀ (l : List UInt8) (a : Nat), a * 10 ^ l.length ≤ valF a l
  | [], a => by rw [valF_nil]; simp
  | c :: l, a => by
    have h := valF_le l (a * 10 + (c.toNat - 48))
    rw [valF_cons, List.length_cons, Nat.pow_succ]
    refine Nat.le_trans ?_ h
    rw [Nat.add_mul, Nat.mul_assoc, Nat.mul_comm 10]
    omega
theorem valF_ge (l : List UInt8) (a : Nat) : a ≤ valF a l := Nat.le_trans (Nat.le_mul_of_pos_right a (Nat.pow_pos (by decide))) (valF_le l a)
theorem byte_of {k : Nat} (h : k < 10) : (UInt8.ofNat (48 + k)).toNat = 48 + k := UInt8.toNat_ofNat_of_lt' (by have : UInt8.size = 256 := rfl; omega)
theorem dec_dig : ∀ (u : Nat), ∀ c ∈ Lib.decDigits u, dig c := by
  intro u
  induction u using Nat.strongRecOn with
  | _ u ih =>
    intro c hc
    rw [Lib.decDigits] at hc
    split at hc
    · rename_i h
      simp only [List.mem_singleton] at hc
      subst hc; unfold dig; rw [byte_of h]; omega
    · rename_i h
      rcases List.mem_append.1 hc with hc | hc
      · exact ih (u / 10) (by omega) c hc
      · simp only [List.mem_singleton] at hc
        subst hc; unfold dig; rw [byte_of (by omega)]; omega
theorem decN_val : ∀ (u : Nat), valF 0 (Lib.decDigits u) = u := by
  intro u
  induction u using Nat.strongRecOn with
  | _ u ih =>
    rw [Lib.decDigits]
    split
    · rename_i h
      simp only [valF_cons, valF_nil, byte_of h]; omega
    · rename_i h
      rw [valF_append, ih (u / 10) (by omega)]
      simp only [valF_cons, valF_nil, byte_of (show u % 10 < 10 by omega)]; omega
theorem dec_pos (u : Nat) : Lib.decDigits u ≠ [] := by
  rw [Lib.decDigits]; split <;> simp
theorem decN_head : ∀ (u : Nat), 0 < u → (Lib.decDigits u).head? ≠ some 48 := by
  intro u
  induction u using Nat.strongRecOn with
  | _ u ih =>
    intro h0
    rw [Lib.decDigits]
    split
    · rename_i h
      simp only [List.head?_cons, ne_eq, Option.some.injEq]
      intro e
      have := congrArg UInt8.toNat e
      rw [byte_of h] at this
      have e48 : (48 : UInt8).toNat = 48 := rfl
      omega
    · rename_i h
      rw [List.head?_append]
      have h1 := ih (u / 10) (by omega) (by omega)
      cases hd : (Lib.decDigits (u / 10)).head? with
      | none => rw [List.head?_eq_none_iff] at hd; exact absurd hd (dec_pos _)
      | some c => rw [hd] at h1; simpa using h1
theorem dec_zero : Lib.decDigits 0 = [48] := by rw [Lib.decDigits]; rfl
/-- Digits without a nought ahead are the numeral of their number. -/
theorem dec_of : ∀ (n : Nat) (l : List UInt8), l.length = n → l ≠ [] → (∀ c ∈ l, dig c) → (l.head? = some 48 → l.length = 1) → Lib.decDigits (valF 0 l) = l := by
  intro n
  induction n using Nat.strongRecOn with
  | _ n ih =>
  intro l hn hl hd h0
  obtain ⟨m, c, rfl⟩ : ∃ m c, l = m ++ [c] := ⟨l.dropLast, l.getLast hl, (List.dropLast_concat_getLast hl).symm⟩
  have hc := hd c (by simp)
  unfold dig at hc
  rw [valF_append, valF_cons, valF_nil]
  have hof : UInt8.ofNat (48 + (c.toNat - 48)) = c := by
    rw [show 48 + (c.toNat - 48) = c.toNat by omega]; simp
  by_cases hm : m = []
  · subst hm
    rw [valF_nil, Lib.decDigits, dif_pos (by omega)]
    simp only [Nat.zero_mul, Nat.zero_add, List.nil_append, List.cons.injEq, and_true]
    exact hof
  · have hm0 : m.head? ≠ some 48 := fun e => by
      have h1 : (m ++ [c]).head? = some 48 := by rw [List.head?_append, e]; rfl
      have h2 := h0 h1
      rw [List.length_append] at h2
      have := List.length_pos_iff.2 hm
      simp at h2; exact hm h2
    have hlen : m.length < n := by rw [← hn]; simp
    have h1 := ih m.length hlen m rfl hm (fun x hx => hd x (List.mem_append_left _ hx)) (fun e => absurd e hm0)
    have hv : 0 < valF 0 m := by
      rcases Nat.eq_zero_or_pos (valF 0 m) with e | e
      · rw [e, dec_zero] at h1
        rw [← h1] at hm0; simp at hm0
      · exact e
    rw [Lib.decDigits, dif_neg (by omega)]
    rw [show (valF 0 m * 10 + (c.toNat - 48)) / 10 = valF 0 m by omega, h1, show (valF 0 m * 10 + (c.toNat - 48)) % 10 = c.toNat - 48 by omega, hof]

/-! ### Go's parsing of a numeral -/
theorem parse_dig : ∀ (l : List UInt8) (a : Nat), (∀ c ∈ l, dig c) → valF a l < 18446744073709551616 → Lib.parseUint10 a l = .ok (valF a l)
  | [], _, _, _ => rfl
  | c :: l, a, hd, hv => by
    have hc := hd c (by simp)
    unfold dig at hc
    rw [valF_cons] at hv ⊢
    have h1 := valF_ge l (a * 10 + (c.toNat - 48))
    rw [Lib.parseUint10, if_pos hc, if_neg (by omega), if_neg (by omega)]
    exact parse_dig l _ (fun x hx => hd x (List.mem_cons_of_mem _ hx)) hv
theorem parse_dec (u : Nat) (h : u < 18446744073709551616) : Lib.parseMag (Lib.decDigits u) = .ok u := by
  unfold Lib.parseMag
  rw [if_neg (dec_pos u), parse_dig _ _ (dec_dig u) (by rw [decN_val]; exact h), decN_val]
theorem atoi_itoa {v : Int} (h0 : -9223372036854775808 ≤ v) (h1 : v ≤ 9223372036854775807) : Lib.atoiAll (Lib.itoa v) = .ok v := by
  unfold Lib.itoa
  split
  · rename_i h
    rw [Lib.atoiAll_minus, parse_dec _ (by omega)]
    simp only [Lib.signed]
    rw [if_neg (by omega)]
    congr 1; omega
  · rename_i h
    have hp := parse_dec v.toNat (by omega)
    cases hl : Lib.decDigits v.toNat with
    | nil => exact absurd hl (dec_pos _)
    | cons c r =>
      have hc := dec_dig v.toNat c (by rw [hl]; simp)
      unfold dig at hc
      rw [Lib.atoiAll_plain c r (by omega) (by omega), ← hl, hp]
      simp only [Lib.signless]
      rw [if_neg (by omega)]
      congr 1; omega
theorem wP_iff {l : List UInt8} {v : Int} : wP l = some v ↔ (-9223372036854775808 ≤ v ∧ v ≤ 9223372036854775807) ∧ Lib.itoa v = l := by
  unfold wP
  constructor
  · intro h
    split at h
    · rename_i u hu
      split at h
      · rename_i hi
        simp only [Option.some.injEq] at h
        subst h
        exact ⟨Lib.atoiAll_bounds hu, hi⟩
      · cases h
    · cases h
  · rintro ⟨⟨h0, h1⟩, rfl⟩
    rw [atoi_itoa h0 h1]; simp

/-! ### the document's parsing -/
theorem digs_some : ∀ (l : List UInt8) (a : Nat) (n : Int), digs l (-(a : Int)) = some n → (∀ c ∈ l, dig c) ∧ n = -(valF a l : Int) ∧ (a ≤ 9223372036854775808 → valF a l ≤ 9223372036854775808)
  | [], a, n, h => by
    simp only [digs, Option.some.injEq] at h
    exact ⟨fun c hc => (by cases hc), h.symm, fun h => h⟩
  | c :: l, a, n, h => by
    rw [digs] at h
    by_cases p1 : (c.toNat : Int) - 48 < 0 ∨ 9 < (c.toNat : Int) - 48
    · rw [if_pos p1] at h; cases h
    rw [if_neg p1] at h
    by_cases p2 : -(a : Int) < -922337203685477580 ∨ -(a : Int) = -922337203685477580 ∧ 8 < (c.toNat : Int) - 48
    · rw [if_pos p2] at h; cases h
    rw [if_neg p2, show 10 * -(a : Int) - ((c.toNat : Int) - 48) = -((a * 10 + (c.toNat - 48) : Nat) : Int) by omega] at h
    obtain ⟨h1, h2, h3⟩ := digs_some l _ n h
    refine ⟨fun x hx => ?_, h2, fun ha => h3 (by omega)⟩
    rcases List.mem_cons.1 hx with rfl | hx
    · unfold dig; omega
    · exact h1 x hx
theorem digs_of : ∀ (l : List UInt8) (a : Nat), (∀ c ∈ l, dig c) → valF a l ≤ 9223372036854775808 → digs l (-(a : Int)) = some (-(valF a l : Int))
  | [], a, _, _ => rfl
  | c :: l, a, hd, hv => by
    have hc := hd c (by simp)
    unfold dig at hc
    rw [valF_cons] at hv ⊢
    have h1 := valF_ge l (a * 10 + (c.toNat - 48))
    rw [digs, if_neg (by omega), if_neg (by omega), show 10 * -(a : Int) - ((c.toNat : Int) - 48) = -((a * 10 + (c.toNat - 48) : Nat) : Int) by omega]
    exact digs_of l _ (fun x hx => hd x (List.mem_cons_of_mem _ hx)) hv
theorem dec_len (u : Nat) (h : u ≤ 9223372036854775808) : (Lib.decDigits u).length ≤ 19 := by
  rw [Lib.decDigits_length]
  rcases Nat.lt_or_ge (Lib.nDigits u) 20 with h1 | h1
  · omega
  · exfalso
    have hl : ∀ (n u : Nat), u < 10 ^ n → 0 < n → Lib.nDigits u ≤ n := by
      intro n
      induction n with
      | zero => intro u _ h; omega
      | succ n ih =>
        intro u hu _
        by_cases hs : u < 10
        · rw [Lib.nDigits_small hs]; omega
        · rw [Lib.nDigits_big hs]
          have : 0 < n := by
            rcases Nat.eq_zero_or_pos n with e | e
            · subst e; simp at hu; omega
            · exact e
          have := ih (u / 10) (by rw [Nat.pow_succ] at hu; omega) this
          omega
    have := hl 19 u (by omega) (by decide)
    omega
theorem refP_wP (l : List UInt8) : refP l = wP l := by
  have key : ∀ v, refP l = some v ↔ wP l = some v := fun v => by
    rw [wP_iff]
    unfold refP
    by_cases h45 : l.head? = some 45
    · rw [if_pos h45]
      obtain ⟨t, rfl⟩ : ∃ t, l = 45 :: t := by
        cases l with
        | nil => cases h45
        | cons c t => simp at h45; exact ⟨t, by rw [h45]⟩
      simp only [List.tail_cons]
      constructor
      · intro h
        unfold refM at h
        split at h
        · cases h
        · rename_i hc
          obtain ⟨h1, h2, h3⟩ := digs_some t 0 v h
          have h4 := h3 (by omega)
          have ht : t ≠ [] := fun e => hc (Or.inl (by rw [e]; rfl))
          have h5 := dec_of t.length t rfl ht h1 (fun e => absurd (Or.inr (Or.inr e)) hc)
          have hv : 0 < valF 0 t := by
            rcases Nat.eq_zero_or_pos (valF 0 t) with e | e
            · rw [e, dec_zero] at h5
              exact absurd (Or.inr (Or.inr (by rw [← h5]; rfl))) hc
            · exact e
          refine ⟨by omega, ?_⟩
          unfold Lib.itoa
          rw [if_pos (by omega), show v.natAbs = valF 0 t by omega, h5]
      · rintro ⟨⟨h0, h1⟩, h2⟩
        unfold Lib.itoa at h2
        split at h2
        · rename_i hn
          simp only [List.cons.injEq, true_and] at h2
          subst h2
          unfold refM
          rw [if_neg]
          · have := digs_of (Lib.decDigits v.natAbs) 0 (dec_dig _) (by rw [decN_val]; omega)
            rw [decN_val] at this
            rw [show (0 : Int) = -((0 : Nat) : Int) by rfl, this]
            congr 1; omega
          · rintro (h | h | h)
            · exact dec_pos _ (List.length_eq_zero_iff.1 h)
            · have := dec_len v.natAbs (by omega); omega
            · exact decN_head v.natAbs (by omega) h
        · have := dec_dig v.toNat 45 (by rw [h2]; simp)
          unfold dig at this
          exact absurd this.1 (by decide)
    · rw [if_neg h45]
      constructor
      · intro h
        unfold refN at h
        split at h
        · cases h
        · rename_i hc
          split at h
          · rename_i n hn
            split at h
            · cases h
            · rename_i hl
              simp only [Option.some.injEq] at h
              obtain ⟨h1, h2, h3⟩ := digs_some l 0 n hn
              have h4 := h3 (by omega)
              have ht : l ≠ [] := fun e => hc (Or.inl (by rw [e]; rfl))
              have h5 := dec_of l.length l rfl ht h1 (fun e => by
                have : ¬ 1 < l.length := fun e' => hc (Or.inr (Or.inr ⟨e, e'⟩))
                have := List.length_pos_iff.2 ht
                omega)
              unfold least at hl
              refine ⟨by omega, ?_⟩
              unfold Lib.itoa
              rw [if_neg (by omega), show v.toNat = valF 0 l by omega, h5]
          · cases h
      · rintro ⟨⟨h0, h1⟩, h2⟩
        unfold Lib.itoa at h2
        split at h2
        · rw [← h2] at h45; simp at h45
        · rename_i hn
          subst h2
          unfold refN
          rw [if_neg]
          · have := digs_of (Lib.decDigits v.toNat) 0 (dec_dig _) (by rw [decN_val]; omega)
            rw [decN_val] at this
            rw [show (0 : Int) = -((0 : Nat) : Int) by rfl, this]
            simp only
            rw [if_neg (by unfold least; omega)]
            congr 1; omega
          · rintro (h | h | ⟨h, h'⟩)
            · exact dec_pos _ (List.length_eq_zero_iff.1 h)
            · have := dec_len v.toNat (by omega); omega
            · rcases Nat.eq_zero_or_pos v.toNat with e | e
              · rw [e, dec_zero] at h'; simp at h'
              · exact decN_head v.toNat e h
  cases h1 : refP l with
  | some v => exact ((key v).1 h1).symm
  | none =>
    cases h2 : wP l with
    | none => rfl
    | some v => rw [(key v).2 h2] at h1; cases h1
end Go.Proofs.YtagkgfniihiinaaGreatDoor
