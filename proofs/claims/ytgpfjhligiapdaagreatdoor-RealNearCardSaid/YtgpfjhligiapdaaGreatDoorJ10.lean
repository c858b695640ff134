/- How the digits of a float's text are gone through (no program in sight). -/
import Derived.Test.YtgpfjhligiapdaaGreatDoorNumD
import Derived.Test.YtgpfjhligiapdaaGreatDoorRnd

namespace Go.Proofs.YtgpfjhligiapdaaGreatDoor

/-- Digits and one point: whether it stood there, the digits, how many of them since the point (or the start), what is left. -/
def scanM : List UInt8 → Bool → List UInt8 → Nat → Bool × List UInt8 × Nat × List UInt8
  | [], d, L, m => (d, L, m, [])
  | c :: l, d, L, m => if c.toNat = 46 then (if d then (d, L, m, c :: l) else scanM l true L 0) else if isD c then scanM l d (L ++ [c]) (m + 1) else (d, L, m, c :: l)
theorem scanM_suffix : ∀ {l : List UInt8} {d : Bool} {L : List UInt8} {m : Nat} {d' : Bool} {L' : List UInt8} {m' : Nat} {r : List UInt8}, scanM l d L m = (d', L', m', r) → ∃ p, l = p ++ r
  | [], d, L, m, d', L', m', r, h => by
    simp only [scanM, Prod.mk.injEq] at h
    exact ⟨[], by rw [← h.2.2.2]; rfl⟩
  | c :: l, d, L, m, d', L', m', r, h => by
    rw [scanM] at h
    split at h
    · split at h
      · simp only [Prod.mk.injEq] at h
        exact ⟨[], by rw [← h.2.2.2]; rfl⟩
      · obtain ⟨p, hp⟩ := scanM_suffix h
        exact ⟨c :: p, by rw [hp]; rfl⟩
    · split at h
      · obtain ⟨p, hp⟩ := scanM_suffix h
        exact ⟨c :: p, by rw [hp]; rfl⟩
      · simp only [Prod.mk.injEq] at h
        exact ⟨[], by rw [← h.2.2.2]; rfl⟩
theorem scanM_digits : ∀ {D : List UInt8} {l : List UInt8} {d : Bool} {L : List UInt8} {m : Nat}, (∀ c ∈ D, isD c = true) → scanM (D ++ l) d L m = scanM l d (L ++ D) (m + D.length)
  | [], l, d, L, m, _ => by simp
  | c :: D, l, d, L, m, h => by
    have hc := h c (List.mem_cons_self ..)
    have h46 : c.toNat ≠ 46 := fun e => by simp [isD, e] at hc
    rw [List.cons_append, scanM, if_neg h46, if_pos hc, scanM_digits (fun x hx => h x (List.mem_cons_of_mem _ hx)), List.append_assoc, List.length_cons]
    congr 1; omega
theorem scanM_bounds : ∀ {l : List UInt8} {d : Bool} {L : List UInt8} {m : Nat} {d' : Bool} {L' : List UInt8} {m' : Nat} {r : List UInt8}, scanM l d L m = (d', L', m', r) → L'.length ≤ L.length + l.length ∧ m' ≤ m + l.length
  | [], d, L, m, d', L', m', r, h => by
    simp only [scanM, Prod.mk.injEq] at h
    rw [← h.2.1, ← h.2.2.1]; simp
  | c :: l, d, L, m, d', L', m', r, h => by
    rw [scanM] at h
    split at h
    · split at h
      · simp only [Prod.mk.injEq] at h
        rw [← h.2.1, ← h.2.2.1]; simp
      · have := scanM_bounds h
        simp only [List.length_cons]; omega
    · split at h
      · have := scanM_bounds h
        simp only [List.length_append, List.length_cons, List.length_nil] at this ⊢; omega
      · simp only [Prod.mk.injEq] at h
        rw [← h.2.1, ← h.2.2.1]; simp
/-- What may stand in a number's text. -/
def okC (c : UInt8) : Prop := isD c = true ∨ c.toNat = 46 ∨ c.toNat = 101 ∨ c.toNat = 43 ∨ c.toNat = 45
theorem okC_low {c : UInt8} (h : okC c) : c.toNat ≠ 120 ∧ c.toNat ≠ 88 ∧ c.toNat ≠ 95 ∧ c.toNat ≠ 69 := by
  rcases h with h | h | h | h | h
  · simp [isD] at h; omega
  all_goals omega
/-- An exponent behind the digits: nothing, or e, a sign, digits. -/
inductive ExpAt : List UInt8 → Int → Prop
  | none : ExpAt [] 0
  | bare {E : List UInt8} : E ≠ [] → (∀ c ∈ E, isD c = true) → ExpAt (101 :: E) (capE E)
  | plus {E : List UInt8} : E ≠ [] → (∀ c ∈ E, isD c = true) → ExpAt (101 :: 43 :: E) (capE E)
  | minus {E : List UInt8} : E ≠ [] → (∀ c ∈ E, isD c = true) → ExpAt (101 :: 45 :: E) (-(capE E : Int))
/-- A float's text: its sign, its digits, its power of ten. -/
structure FTxt (s : ByteArray) (neg : Bool) (d : Bool) (L : List UInt8) (m : Nat) (x : Int) : Prop where
  form : ∃ c body rest, s.data.toList = (if neg then [45] else []) ++ c :: body ∧ isD c = true ∧ scanM (c :: body) false [] 0 = (d, L, m, rest) ∧ ExpAt rest x ∧ (∀ b ∈ c :: body, okC b)
  size : s.size ≤ 1000
  ne : L ≠ []
/-- The power of ten of the first nineteen digits. -/
def expF (d : Bool) (L : List UInt8) (m : Nat) (x : Int) : Int := if mantF L = 0 then 0 else (if d then (ndF L : Int) - m else ndF L) + x - (min 19 (ndF L) : Nat)
end Go.Proofs.YtgpfjhligiapdaaGreatDoor

/- The model's own rounding is to the nearest rung (no program in sight). -/
namespace Go.Proofs.YtgpfjhligiapdaaGreatDoor
open Ieee

theorem cut_spec (neg : Bool) (n drop : Nat) : 2 * Toward.even.cut neg n drop * 2 ^ drop ≤ 2 * n + 2 ^ drop ∧ 2 * n ≤ (2 * Toward.even.cut neg n drop + 1) * 2 ^ drop ∧
    (2 * Toward.even.cut neg n drop * 2 ^ drop = 2 * n + 2 ^ drop ∨ 2 * n = (2 * Toward.even.cut neg n drop + 1) * 2 ^ drop → Toward.even.cut neg n drop % 2 = 0) := by
  unfold Toward.cut
  simp only [Nat.shiftLeft_eq, Nat.one_mul]
  by_cases h : drop ≤ n.log2 + 2
  · rw [Nat.min_eq_left h]
    have hp := Nat.two_pow_pos drop
    generalize 2 ^ drop = G at *
    have hd := Nat.div_add_mod n G
    have hm := Nat.mod_lt n hp
    obtain ⟨q, hq⟩ : ∃ q, q = n / G := ⟨_, rfl⟩
    obtain ⟨r, hr⟩ : ∃ r, r = n % G := ⟨_, rfl⟩
    rw [← hq, ← hr]
    rw [← hq, ← hr] at hd
    rw [← hr] at hm
    have hqG : G * q = q * G := Nat.mul_comm _ _
    have e1 : 2 * q * G = 2 * (q * G) := Nat.mul_assoc _ _ _
    have e2 : (2 * q + 1) * G = 2 * (q * G) + G := by rw [Nat.add_mul, Nat.one_mul, e1]
    have e3 : 2 * (q + 1) * G = 2 * (q * G) + 2 * G := by rw [Nat.mul_add, Nat.add_mul, e1]
    have e4 : (2 * (q + 1) + 1) * G = 2 * (q * G) + 3 * G := by rw [Nat.add_mul, Nat.one_mul, e3]; omega
    by_cases h1 : G < 2 * r
    · have : (decide (G < 2 * r) || (G == 2 * r && q % 2 == 1)) = true := by simp [h1]
      rw [this]
      show 2 * (q + 1) * G ≤ _ ∧ _ ≤ (2 * (q + 1) + 1) * G ∧ (2 * (q + 1) * G = _ ∨ _ = (2 * (q + 1) + 1) * G → (q + 1) % 2 = 0)
      rw [e3, e4]
      omega
    · by_cases h2 : G = 2 * r ∧ q % 2 = 1
      · have : (decide (G < 2 * r) || (G == 2 * r && q % 2 == 1)) = true := by simp [h2.1, h2.2]
        rw [this]
        show 2 * (q + 1) * G ≤ _ ∧ _ ≤ (2 * (q + 1) + 1) * G ∧ (2 * (q + 1) * G = _ ∨ _ = (2 * (q + 1) + 1) * G → (q + 1) % 2 = 0)
        rw [e3, e4]
        omega
      · have : (decide (G < 2 * r) || (G == 2 * r && q % 2 == 1)) = false := by
          rw [Bool.or_eq_false_iff, Bool.and_eq_false_iff, decide_eq_false_iff_not]
          refine ⟨h1, ?_⟩
          by_cases h3 : G = 2 * r
          · right
            have : ¬ q % 2 = 1 := fun h4 => h2 ⟨h3, h4⟩
            simpa using this
          · left; simpa using h3
        rw [this]
        show 2 * (q + 0) * G ≤ _ ∧ _ ≤ (2 * (q + 0) + 1) * G ∧ (2 * (q + 0) * G = _ ∨ _ = (2 * (q + 0) + 1) * G → (q + 0) % 2 = 0)
        rw [Nat.add_zero, e1, e2]
        omega
  · rw [Nat.min_eq_right (by omega)]
    have hn : n < 2 ^ (n.log2 + 1) := Nat.lt_log2_self
    have e0 : 2 ^ (n.log2 + 2) = 2 * 2 ^ (n.log2 + 1) := Nat.pow_succ'
    have hle : 2 ^ (n.log2 + 2) ≤ 2 ^ drop := Nat.pow_le_pow_right (by decide) (by omega)
    have hd : n / 2 ^ (n.log2 + 2) = 0 := Nat.div_eq_of_lt (by omega)
    have hm : n % 2 ^ (n.log2 + 2) = n := Nat.mod_eq_of_lt (by omega)
    rw [hd, hm]
    have : (decide (2 ^ (n.log2 + 2) < 2 * n) || (2 ^ (n.log2 + 2) == 2 * n && 0 % 2 == 1)) = false := by
      rw [Bool.or_eq_false_iff, Bool.and_eq_false_iff, decide_eq_false_iff_not]
      exact ⟨by omega, .inr rfl⟩
    rw [this]
    show 2 * (0 + 0) * 2 ^ drop ≤ _ ∧ _ ≤ (2 * (0 + 0) + 1) * 2 ^ drop ∧ (2 * (0 + 0) * 2 ^ drop = _ ∨ _ = (2 * (0 + 0) + 1) * 2 ^ drop → (0 + 0) % 2 = 0)
    simp only [Nat.add_zero, Nat.mul_zero, Nat.zero_mul, Nat.zero_add, Nat.one_mul]
    omega
/-- THE MODEL's ROUNDING. -/
theorem nearest_inI (neg : Bool) {mag : Nat} (hm : 0 < mag) (place : Int) :
    ∃ r, Ieee.double.nearest neg mag place = Ieee.double.word neg (min r 9218868437227405312) ∧ InI r (mag * 2 ^ (place + 1075).toNat) (2 ^ (-(place + 1075)).toNat) := by
  unfold Ieee.Format.nearest
  rw [if_neg (by omega)]
  simp only [least_place, binade, inf_rung, Nat.shiftLeft_eq, show Ieee.double.fractionBits = 52 from rfl]
  obtain ⟨last, hl⟩ : ∃ last : Int, last = max (place + mag.log2 - ((52 : Nat) : Int)) (-1074) := ⟨_, rfl⟩
  rw [← hl]
  obtain ⟨k, hk⟩ : ∃ k : Nat, last = k - 1074 := ⟨(last + 1074).toNat, by omega⟩
  rw [show (last - -1074).toNat = k by omega]
  obtain ⟨up, hup⟩ : ∃ u, u = (place - last).toNat := ⟨_, rfl⟩
  obtain ⟨dn, hdn⟩ : ∃ u, u = (last - place).toNat := ⟨_, rfl⟩
  rw [← hup, ← hdn]
  obtain ⟨c1, c2, c3⟩ := cut_spec neg (mag * 2 ^ up) dn
  generalize hM : Toward.even.cut neg (mag * 2 ^ up) dn = m at *
  have hlo : 2 ^ mag.log2 ≤ mag := Nat.log2_self_le (by omega)
  have hhi : mag < 2 ^ (mag.log2 + 1) := Nat.lt_log2_self
  have hG := Nat.two_pow_pos dn
  -- mag * 2 ^ up against 2 ^ 53 * 2 ^ dn
  have b53 : mag * 2 ^ up < 9007199254740992 * 2 ^ dn := by
    have : mag * 2 ^ up < 2 ^ (mag.log2 + 1) * 2 ^ up := Nat.mul_lt_mul_of_pos_right hhi (Nat.two_pow_pos up)
    rw [← Nat.pow_add] at this
    have h2 : 2 ^ (mag.log2 + 1 + up) ≤ 2 ^ (53 + dn) := Nat.pow_le_pow_right (by decide) (by omega)
    rw [Nat.pow_add 2 53] at h2
    exact Nat.lt_of_lt_of_le this h2
  have b52 : k = 0 ∨ 4503599627370496 * 2 ^ dn ≤ mag * 2 ^ up := by
    rcases Nat.eq_zero_or_pos k with h | h
    · exact .inl h
    · right
      have : 2 ^ mag.log2 * 2 ^ up ≤ mag * 2 ^ up := Nat.mul_le_mul_right _ hlo
      rw [← Nat.pow_add] at this
      have h2 : 2 ^ (52 + dn) ≤ 2 ^ (mag.log2 + up) := Nat.pow_le_pow_right (by decide) (by omega)
      rw [Nat.pow_add 2 52] at h2
      exact Nat.le_trans h2 this
  have hrel : mag * 2 ^ (place + 1075).toNat * 2 ^ dn = 2 * (mag * 2 ^ up) * 2 ^ k * 2 ^ (-(place + 1075)).toNat := by
    have e : 2 ^ (place + 1075).toNat * 2 ^ dn = 2 * 2 ^ up * 2 ^ k * 2 ^ (-(place + 1075)).toNat := by
      rw [← Nat.pow_succ', ← Nat.pow_add, ← Nat.pow_add, ← Nat.pow_add]
      congr 1; omega
    rw [Nat.mul_assoc, e]
    simp only [Nat.mul_assoc, Nat.mul_left_comm, Nat.mul_comm]
  generalize mag * 2 ^ up = n at *
  generalize mag * 2 ^ (place + 1075).toNat = a at *
  have hb := Nat.two_pow_pos (-(place + 1075)).toNat
  generalize 2 ^ (-(place + 1075)).toNat = b at *
  generalize 2 ^ dn = G at *
  have hT : 0 < 2 ^ k * b := Nat.mul_pos (Nat.two_pow_pos k) hb
  have eT : ∀ c : Nat, c * 2 ^ k * b = c * (2 ^ k * b) := fun c => Nat.mul_assoc _ _ _
  rw [eT] at hrel
  generalize hTe : 2 ^ k * b = T at *
  have m1 : m ≤ 9007199254740992 := by
    rcases Nat.lt_or_ge 9007199254740992 m with h | h
    · have : 2 * 9007199254740993 * G ≤ 2 * m * G := Nat.mul_le_mul_right _ (by omega)
      omega
    · exact h
  have m0 : k = 0 ∨ 4503599627370496 ≤ m := by
    rcases b52 with h | h
    · exact .inl h
    · right
      rcases Nat.lt_or_ge m 4503599627370496 with h9 | h9
      · have : (2 * m + 1) * G ≤ 9007199254740991 * G := Nat.mul_le_mul_right _ (by omega)
        omega
      · exact h9
  refine ⟨k * 4503599627370496 + m, rfl, inI_of m0 m1 ?_ ?_ ?_ ?_⟩
  · rw [eT, hTe]
    refine Nat.le_of_mul_le_mul_right ?_ hG
    rw [Nat.add_mul, hrel, Nat.mul_right_comm, Nat.mul_comm T G, ← Nat.add_mul]
    exact Nat.mul_le_mul_right _ c1
  · rw [eT]
    refine Nat.le_of_mul_le_mul_right ?_ hG
    rw [hrel, Nat.mul_right_comm (2 * m + 1) T G]
    exact Nat.mul_le_mul_right _ c2
  · rw [eT, eT, hTe]
    intro h
    refine c3 ?_
    rcases h with h | h
    · left
      refine Nat.eq_of_mul_eq_mul_right hT ?_
      have : 2 * m * T * G = (a + T) * G := by rw [h]
      rw [Nat.add_mul, hrel, Nat.mul_right_comm, Nat.mul_comm T G, ← Nat.add_mul] at this
      exact this
    · right
      refine Nat.eq_of_mul_eq_mul_right hT ?_
      have : 2 * n * T = (2 * m + 1) * T * G := by rw [← hrel, h]
      rw [this, Nat.mul_right_comm]
  · rcases b52 with h | h
    · exact .inl h
    · have hm9 : 4503599627370496 ≤ m := by
        rcases Nat.lt_or_ge m 4503599627370496 with h9 | h9
        · have : (2 * m + 1) * G ≤ 9007199254740991 * G := Nat.mul_le_mul_right _ (by omega)
          omega
        · exact h9
      rcases Nat.eq_or_lt_of_le hm9 with h9 | h9
      · right; right
        rw [eT, hTe]
        have : 4503599627370496 * G * T ≤ n * T := Nat.mul_le_mul_right _ h
        have h8 : 2 * 4503599627370496 * T ≤ a := by
          refine Nat.le_of_mul_le_mul_right ?_ hG
          rw [hrel, Nat.mul_assoc 2, Nat.mul_assoc 2, Nat.mul_assoc 2 n]
          refine Nat.mul_le_mul_left 2 ?_
          rw [Nat.mul_right_comm]; exact this
        rw [← h9]
        omega
      · exact .inr (.inl h9)
end Go.Proofs.YtgpfjhligiapdaaGreatDoor
