/- A number's text but its sign (no program in sight but for what came ahead). -/
import Derived.Test.YtagkgfniihiinaaGreatDoorRTxt
import Derived.Test.YtagkgfniihiinaaGreatDoorJ12

namespace Go.Proofs.YtagkgfniihiinaaGreatDoor

/-- A number's text but its sign. -/
def bareL (r : Nat) : List UInt8 := if r = 9218868437227405312 then [105, 110, 102] else if expN r < -4 ∨ 21 ≤ expN r then effE false (digL r) (pointN r) else effF false (digL r) (pointN r)
theorem effE_sign (neg : Bool) (D : List UInt8) (dp : Int) : effE neg D dp = signL neg ++ effE false D dp := by unfold effE; simp [signL]
theorem effF_sign (neg : Bool) (D : List UInt8) (dp : Int) : effF neg D dp = signL neg ++ effF false D dp := by unfold effF; simp [signL]
theorem realL_bare {n : Nat} (hn : nanF n = false) : realL n = signL (decide (9223372036854775808 ≤ n)) ++ bareL (n % 9223372036854775808) := by
  by_cases h : n % 9223372036854775808 = 9218868437227405312
  · rw [realL_inf hn h]; unfold bareL; rw [if_pos h]
  · rw [realL_num hn h]; unfold bareL; rw [if_neg h]
    split
    · exact effE_sign _ _ _
    · exact effF_sign _ _ _
theorem effE_len (neg : Bool) (D : List UInt8) (dp : Int) : (effE neg D dp).length ≤ 10 + D.length := by
  rw [effE_front, List.length_append, List.length_cons]
  have h1 := front_len neg D
  have h2 := expL_len (if D = [] then 0 else dp - 1)
  omega
theorem effF_len (neg : Bool) (D : List UInt8) (dp : Int) (h0 : -400 ≤ dp) (h1 : dp ≤ 400) : (effF neg D dp).length ≤ 1000 + 2 * D.length := by
  unfold effF
  rw [List.length_append, List.length_append]
  have e0 : (signL neg).length ≤ 1 := by unfold signL; split <;> simp
  have e1 : (if 0 < dp then D.take dp.toNat ++ List.replicate (dp.toNat - D.length) 48 else [48] : List UInt8).length ≤ 401 + D.length := by
    split
    · rw [List.length_append, List.length_replicate, List.length_take]; omega
    · simp; omega
  have e2 : (if dp < D.length then 46 :: (List.replicate (-dp).toNat 48 ++ D.drop dp.toNat) else [] : List UInt8).length ≤ 401 + D.length := by
    split
    · rw [List.length_cons, List.length_append, List.length_replicate, List.length_drop]; omega
    · simp
  omega
theorem bareL_len {r : Nat} (h : r ≤ 9218868437227405312) : (bareL r).length ≤ 1100 := by
  unfold bareL
  split
  · simp
  · have h1 := digL_len r (by omega)
    have h2 := point_bounds (r := r) (by omega)
    split
    · have := effE_len false (digL r) (pointN r); omega
    · have := effF_len false (digL r) (pointN r) h2.1 h2.2; omega
theorem nDig_le : ∀ k u : Nat, u < 10 ^ (k + 1) → Lib.nDigits u ≤ k + 1
  | 0, u, h => by rw [Lib.nDigits_small (by simpa using h)]; exact Nat.le_refl _
  | k + 1, u, h => by
    by_cases h1 : u < 10
    · rw [Lib.nDigits_small h1]; omega
    · rw [Lib.nDigits_big h1]
      have := nDig_le k (u / 10) (by rw [Nat.pow_succ] at h; omega)
      omega
end Go.Proofs.YtagkgfniihiinaaGreatDoor

/- How the digits of a float's text are gone through (no program in sight). -/
namespace Go.Proofs.YtagkgfniihiinaaGreatDoor

/-- Digits and one point: whether it stood there, the digits, how many of them since the point (or the start), what is left. -/
def scanM : List UInt8 → Bool → List UInt8 → Nat → Bool × List UInt8 × Nat × List UInt8
  | [], d, L, m => (d, L, m, [])
  | c :: l, d, L, m => if c.toNat = 46 then (if d then (d, L, m, c :: l) else scanM l true L 0) else if isD c then scanM l d (L ++ [c]) (m + 1) else (d, L, m, c :: l)
theorem scanM_suffix : ∀ {l : List UInt8} {d : Bool} {L : List UInt8} {m : Nat} {d' : Bool} {L' : List UInt8} {m' : Nat} {r : List UInt8}, scanM l d L m = (d', L', m', r) → ∃ p, l = p ++ r
  | [], d, L, m, d', L', m', r, h => by
    simp only [scanM, Prod.mk.injEq] at h
    exact ⟨[], by rw [← h.2.2.2]; rfl⟩
  | c :: l, d, L, m, d', L', m', r, h => by
    rw [scanM] at h
    split at h
    · split at h
      · simp only [Prod.mk.injEq] at h
        exact ⟨[], by rw [← h.2.2.2]; rfl⟩
      · obtain ⟨p, hp⟩ := scanM_suffix h
        exact ⟨c :: p, by rw [hp]; rfl⟩
    · split at h
      · obtain ⟨p, hp⟩ := scanM_suffix h
        exact ⟨c :: p, by rw [hp]; rfl⟩
      · simp only [Prod.mk.injEq] at h
        exact ⟨[], by rw [← h.2.2.2]; rfl⟩
theorem scanM_digits : ∀ {D : List UInt8} {l : List UInt8} {d : Bool} {L : List UInt8} {m : Nat}, (∀ c ∈ D, isD c = true) → scanM (D ++ l) d L m = scanM l d (L ++ D) (m + D.length)
  | [], l, d, L, m, _ => by simp
  | c :: D, l, d, L, m, h => by
    have hc := h c (List.mem_cons_self ..)
    have h46 : c.toNat ≠ 46 := fun e => by simp [isD, e] at hc
    rw [List.cons_append, scanM, if_neg h46, if_pos hc, scanM_digits (fun x hx => h x (List.mem_cons_of_mem _ hx)), List.append_assoc, List.length_cons]
    congr 1; omega
theorem scanM_bounds : ∀ {l : List UInt8} {d : Bool} {L : List UInt8} {m : Nat} {d' : Bool} {L' : List UInt8} {m' : Nat} {r : List UInt8}, scanM l d L m = (d', L', m', r) → L'.length ≤ L.length + l.length ∧ m' ≤ m + l.length
  | [], d, L, m, d', L', m', r, h => by
    simp only [scanM, Prod.mk.injEq] at h
    rw [← h.2.1, ← h.2.2.1]; simp
  | c :: l, d, L, m, d', L', m', r, h => by
    rw [scanM] at h
    split at h
    · split at h
      · simp only [Prod.mk.injEq] at h
        rw [← h.2.1, ← h.2.2.1]; simp
      · have := scanM_bounds h
        simp only [List.length_cons]; omega
    · split at h
      · have := scanM_bounds h
        simp only [List.length_append, List.length_cons, List.length_nil] at this ⊢; omega
      · simp only [Prod.mk.injEq] at h
        rw [← h.2.1, ← h.2.2.1]; simp
/-- What may stand in a number's text. -/
def okC (c : UInt8) : Prop := isD c = true ∨ c.toNat = 46 ∨ c.toNat = 101 ∨ c.toNat = 43 ∨ c.toNat = 45
theorem okC_low {c : UInt8} (h : okC c) : c.toNat ≠ 120 ∧ c.toNat ≠ 88 ∧ c.toNat ≠ 95 ∧ c.toNat ≠ 69 := by
  rcases h with h | h | h | h | h
  · simp [isD] at h; omega
  all_goals omega
/-- An exponent behind the digits: nothing, or e, a sign, digits. -/
inductive ExpAt : List UInt8 → Int → Prop
  | none : ExpAt [] 0
  | bare {E : List UInt8} : E ≠ [] → (∀ c ∈ E, isD c = true) → ExpAt (101 :: E) (capE E)
  | plus {E : List UInt8} : E ≠ [] → (∀ c ∈ E, isD c = true) → ExpAt (101 :: 43 :: E) (capE E)
  | minus {E : List UInt8} : E ≠ [] → (∀ c ∈ E, isD c = true) → ExpAt (101 :: 45 :: E) (-(capE E : Int))
/-- A float's text: its sign, its digits, its power of ten. -/
structure FTxt (s : ByteArray) (neg : Bool) (d : Bool) (L : List UInt8) (m : Nat) (x : Int) : Prop where
  form : ∃ c body rest, s.data.toList = (if neg then [45] else []) ++ c :: body ∧ isD c = true ∧ scanM (c :: body) false [] 0 = (d, L, m, rest) ∧ ExpAt rest x ∧ (∀ b ∈ c :: body, okC b)
  size : s.size ≤ 1000
  ne : L ≠ []
/-- The power of ten of the first nineteen digits. -/
def expF (d : Bool) (L : List UInt8) (m : Nat) (x : Int) : Int := if mantF L = 0 then 0 else (if d then (ndF L : Int) - m else ndF L) + x - (min 19 (ndF L) : Nat)
end Go.Proofs.YtagkgfniihiinaaGreatDoor
