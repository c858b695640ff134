/- The texts of floats with so many digits, as bytes (no program in sight). -/
import Derived.Test.YtgpfjhligiapdaaGreatDoorFmtP
namespace Go.Proofs.YtgpfjhligiapdaaGreatDoor

/-- The point and what is behind it. -/
def midL (l : List UInt8) (prec : Nat) : List UInt8 := if 0 < prec then 46 :: (l.tail ++ List.replicate (prec - (l.length - 1)) 48) else []
theorem midL_pos {l : List UInt8} {prec : Nat} (h : 0 < prec) : midL l prec = 46 :: (l.tail ++ List.replicate (prec - (l.length - 1)) 48) := if_pos h
theorem midL_neg {l : List UInt8} {prec : Nat} (h : ¬ 0 < prec) : midL l prec = [] := if_neg h
/-- 'd.ddde+xx' with so many digits behind the point. -/
def effP (neg : Bool) (D : List UInt8) (dp : Int) (prec : Nat) : List UInt8 :=
  signL neg ++ [D.headD 48] ++ midL D prec ++ [101] ++ expL (if D.length = 0 then 0 else dp - 1)
theorem effP_short (neg : Bool) (D : List UInt8) (dp : Int) : effP neg D dp (D.length - 1) = effE neg D dp := by
  unfold effP effE midL
  have e : (D.length = 0) = (D = []) := by rw [List.length_eq_zero_iff]
  simp only [Nat.sub_self, List.replicate_zero, List.append_nil, e]
  by_cases h : 1 < D.length
  · rw [if_pos h, if_pos (by omega)]
  · rw [if_neg h, if_neg (by omega)]
theorem expL_len (x : Int) : 3 ≤ (expL x).length ∧ (expL x).length ≤ 4 := by
  have key : ∀ (b : UInt8) (l : List UInt8), 2 ≤ l.length ∧ l.length ≤ 3 → 3 ≤ (b :: l).length ∧ (b :: l).length ≤ 4 := fun b l h => by rw [List.length_cons]; omega
  unfold expL
  refine key _ _ ?_
  split
  · exact ⟨Nat.le_refl _, by simp⟩
  · split <;> simp
end Go.Proofs.YtgpfjhligiapdaaGreatDoor
