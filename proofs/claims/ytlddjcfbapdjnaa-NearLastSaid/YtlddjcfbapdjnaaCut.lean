/- Slices of slices: what they read. -/
import Derived.Test.YtlddjcfbapdjnaaLaw10
import Derived.Test.YtlddjcfbapdjnaaProg
namespace Go.Proofs.Ytlddjcfbapdjnaa
open Go.RowKit

theorem Reads.part {w : World} {size : Nat} {a : Option Addr} {n c : Nat} {xs : List Value} (hr : Reads w size (.slice a n c) n xs) {l h : Nat} (hl : l ≤ h) (hh : h ≤ n) (c' : Nat) :
    Reads w size (.slice (a.map (·.add (l * size))) (h - l) c') (h - l) ((xs.take (h * size)).drop (l * size)) := by
  have hlen := hr.len.2
  refine ⟨_, c', rfl, ?_, fun j u hj => ?_⟩
  · rw [List.length_drop, List.length_take, hlen, Nat.min_eq_left (Nat.mul_le_mul_right _ hh), Nat.sub_mul]
  · rw [List.getElem?_drop, List.getElem?_take] at hj
    split at hj
    · rename_i hlt
      obtain ⟨b, o, rfl, hc⟩ := hr.at (j := l * size + j) (by rw [hlen]; exact Nat.lt_of_lt_of_le hlt (Nat.mul_le_mul_right _ hh))
      have h1 := hc _ _ hj
      by_cases h0 : l * size = 0
      · exact ⟨b, o, by simp [Addr.add, h0], by rw [h0, Nat.zero_add] at h1; exact h1⟩
      · exact ⟨b, o + l * size, by simp [Addr.add, h0], by rw [Nat.add_assoc]; exact h1⟩
    · cases hj
theorem LS.part {w : World} {a : Option Addr} {n c : Nat} {xs : List ByteArray} {fp : List Nat} (hs : LS w (.slice a n c) xs fp) {l h : Nat} (hl : l ≤ h) (hh : h ≤ n) (hn : n ≤ c) :
    ∃ a', sliced a l h c 1 = .slice a' (h - l) (c - l) ∧ LS w (.slice a' (h - l) (c - l)) ((xs.take h).drop l) fp := by
  obtain ⟨a0, c0, e, hr, hf⟩ := hs
  cases e
  refine ⟨_, rfl, ?_⟩
  have hlen : ((xs.take h).drop l).length = h - l := by rw [List.length_drop, List.length_take, Nat.min_eq_left hh]
  have hp := hr.part hl hh (c - l)
  simp only [Nat.mul_one, ← List.map_take, ← List.map_drop] at hp
  by_cases hcl : c = l
  · rw [if_pos hcl]
    have : h - l = 0 := by omega
    have hx : (xs.take h).drop l = [] := List.length_eq_zero_iff.1 (by rw [hlen, this])
    rw [this, hx]
    exact ⟨_, _, rfl, Reads.nil _ _ _ _, hf⟩
  · rw [if_neg hcl]
    refine ⟨_, _, by rw [hlen], by rw [hlen, Nat.mul_one]; exact hp, fun b o s e => ?_⟩
    rw [Nat.mul_one] at e
    cases ha : a with
    | none => rw [ha] at e; cases e
    | some ad =>
      rw [ha] at e
      simp only [Option.map_some, Option.some.injEq] at e
      have : ad.block = b := by
        have h1 := congrArg Addr.block e
        simp only at h1
        rw [← h1]; unfold Addr.add; split <;> rfl
      obtain ⟨bb, oo, ss⟩ := ad
      simp only at this
      subst this
      exact hf _ _ _ ha
theorem strs_from (a : Option Addr) (n c l : Nat) (h : l ≤ n) (x : Int) (hx : x = l) (W : World) : (Instr.slice 26 (.slice a n c) (some (.int .i64 x)) none none).run Try.prog W = .ok (sliced a l n c 1) W := by
  subst hx
  have hz : (sizeOf (Try.prog.elem 26)).run Try.prog W = .ok 1 W := by kernel_rfl
  rw [run_slice_l W _ _ _ _ (by kernel_rfl) _ _ (by omega) (by omega), hz]; rfl
theorem strs_to (a : Option Addr) (n c l : Nat) (h : l ≤ c) (x : Int) (hx : x = l) (W : World) : (Instr.slice 26 (.slice a n c) none (some (.int .i64 x)) none).run Try.prog W = .ok (sliced a 0 l c 1) W := by
  subst hx
  have hz : (sizeOf (Try.prog.elem 26)).run Try.prog W = .ok 1 W := by kernel_rfl
  rw [run_slice_h W _ _ _ _ (by kernel_rfl) _ _ (by omega) (by omega), hz]; rfl
end Go.Proofs.Ytlddjcfbapdjnaa
