/- How the digits of a float's text are gone through (no program in sight). -/
import Derived.Test.YtgpfjhligiapdaaGreatDoorNumD
namespace Go.Proofs.YtgpfjhligiapdaaGreatDoor

/-- Digits and one point: whether it stood there, the digits, how many of them since the point (or the start), what is left. -/
def scanM : List UInt8 → Bool → List UInt8 → Nat → Bool × List UInt8 × Nat × List UInt8
  | [], d, L, m => (d, L, m, [])
  | c :: l, d, L, m => if c.toNat = 46 then (if d then (d, L, m, c :: l) else scanM l true L 0) else if isD c then scanM l d (L ++ [c]) (m + 1) else (d, L, m, c :: l)
theorem scanM_suffix : ∀ {l : List UInt8} {d : Bool} {L : List UInt8} {m : Nat} {d' : Bool} {L' : List UInt8} {m' : Nat} {r : List UInt8}, scanM l d L m = (d', L', m', r) → ∃ p, l = p ++ r
  | [], d, L, m, d', L', m', r, h => by
    simp only [scanM, Prod.mk.injEq] at h
    exact ⟨[], by rw [← h.2.2.2]; rfl⟩
  | c :: l, d, L, m, d', L', m', r, h => by
    rw [scanM] at h
    split at h
    · split at h
      · simp only [Prod.mk.injEq] at h
        exact ⟨[], by rw [← h.2.2.2]; rfl⟩
      · obtain ⟨p, hp⟩ := scanM_suffix h
        exact ⟨c :: p, by rw [hp]; rfl⟩
    · split at h
      · obtain ⟨p, hp⟩ := scanM_suffix h
        exact ⟨c :: p, by rw [hp]; rfl⟩
      · simp only [Prod.mk.injEq] at h
        exact ⟨[], by rw [← h.2.2.2]; rfl⟩
theorem scanM_digits : ∀ {D : List UInt8} {l : List UInt8} {d : Bool} {L : List UInt8} {m : Nat}, (∀ c ∈ D, isD c = true) → scanM (D ++ l) d L m = scanM l d (L ++ D) (m + D.length)
  | [], l, d, L, m, _ => by simp
  | c :: D, l, d, L, m, h => by
    have hc := h c (List.mem_cons_self ..)
    have h46 : c.toNat ≠ 46 := fun e => by simp [isD, e] at hc
    rw [List.cons_append, scanM, if_neg h46, if_pos hc, scanM_digits (fun x hx => h x (List.mem_cons_of_mem _ hx)), List.append_assoc, List.length_cons]
    congr 1; omega
theorem scanM_bounds : ∀ {l : List UInt8} {d : Bool} {L : List UInt8} {m : Nat} {d' : Bool} {L' : List UInt8} {m' : Nat} {r : List UInt8}, scanM l d L m = (d', L', m', r) → L'.length ≤ L.length + l.length ∧ m' ≤ m + l.length
  | [], d, L, m, d', L', m', r, h => by
    simp only [scanM, Prod.mk.injEq] at h
    rw [← h.2.1, ← h.2.2.1]; simp
  | c :: l, d, L, m, d', L', m', r, h => by
    rw [scanM] at h
    split at h
    · split at h
      · simp only [Prod.mk.injEq] at h
        rw [← h.2.1, ← h.2.2.1]; simp
      · have := scanM_bounds h
        simp only [List.length_cons]; omega
    · split at h
      · have := scanM_bounds h
        simp only [List.length_append, List.length_cons, List.length_nil] at this ⊢; omega
      · simp only [Prod.mk.injEq] at h
        rw [← h.2.1, ← h.2.2.1]; simp
/-- What may stand in a number's text. -/
def okC (c : UInt8) : Prop := isD c = true ∨ c.toNat = 46 ∨ c.toNat = 101 ∨ c.toNat = 43 ∨ c.toNat = 45
theorem okC_low {c : UInt8} (h : okC c) : c.toNat ≠ 120 ∧ c.toNat ≠ 88 ∧ c.toNat ≠ 95 ∧ c.toNat ≠ 69 := by
  rcases h with h | h | h | h | h
  · simp [isD] at h; omega
  all_goals omega
/-- An exponent behind the digits: nothing, or e, a sign, digits. -/
inductive ExpAt : List UInt8 → Int → Prop
  | none : ExpAt [] 0
  | bare {E : List UInt8} : E ≠ [] → (∀ c ∈ E, isD c = true) → ExpAt (101 :: E) (capE E)
  | plus {E : List UInt8} : E ≠ [] → (∀ c ∈ E, isD c = true) → ExpAt (101 :: 43 :: E) (capE E)
  | minus {E : List UInt8} : E ≠ [] → (∀ c ∈ E, isD c = true) → ExpAt (101 :: 45 :: E) (-(capE E : Int))
/-- A float's text: its sign, its digits, its power of ten. -/
structure FTxt (s : ByteArray) (neg : Bool) (d : Bool) (L : List UInt8) (m : Nat) (x : Int) : Prop where
  form : ∃ c body rest, s.data.toList = (if neg then [45] else []) ++ c :: body ∧ isD c = true ∧ scanM (c :: body) false [] 0 = (d, L, m, rest) ∧ ExpAt rest x ∧ (∀ b ∈ c :: body, okC b)
  size : s.size ≤ 1000
  ne : L ≠ []
/-- The power of ten of the first nineteen digits. -/
def expF (d : Bool) (L : List UInt8) (m : Nat) (x : Int) : Int := if mantF L = 0 then 0 else (if d then (ndF L : Int) - m else ndF L) + x - (min 19 (ndF L) : Nat)
end Go.Proofs.YtgpfjhligiapdaaGreatDoor
