/- A numeral's digits; the shortest digits' bounds (no program in sight). -/
import Derived.Test.YtagkgfniihiinaaGreatDoorJ12
import Derived.Test.YtagkgfniihiinaaGreatDoorJ9
namespace Go.Proofs.YtagkgfniihiinaaGreatDoor

theorem u8_toNat {n : Nat} (h : n < 10) : (UInt8.ofNat (48 + n)).toNat = 48 + n := by rw [UInt8.toNat_ofNat']; omega
theorem dec_isD (u : Nat) : ∀ c ∈ Lib.decDigits u, isD c = true := by
  induction u using Nat.strongRecOn with
  | _ u ih =>
    intro c hc
    rw [Lib.decDigits] at hc
    have key : ∀ n : Nat, n < 10 → isD (UInt8.ofNat (48 + n)) = true := fun n h => by unfold isD; rw [u8_toNat h]; simp; omega
    by_cases h : u < 10
    · rw [dif_pos h, List.mem_singleton] at hc
      rw [hc]; exact key u h
    · rw [dif_neg h, List.mem_append, List.mem_singleton] at hc
      rcases hc with hc | hc
      · exact ih (u / 10) (by omega) c hc
      · rw [hc]; exact key _ (Nat.mod_lt _ (by decide))
theorem dec_val (u : Nat) : valD (Lib.decDigits u) = u := by
  induction u using Nat.strongRecOn with
  | _ u ih =>
    have key : ∀ n : Nat, n < 10 → dv (UInt8.ofNat (48 + n)) = n := fun n h => by unfold dv; rw [u8_toNat h]; omega
    rw [Lib.decDigits]
    by_cases h : u < 10
    · rw [dif_pos h, valD_cons, key u h]; simp [valD]
    · rw [dif_neg h, valD_snoc, ih (u / 10) (by omega), key _ (Nat.mod_lt _ (by decide))]; omega
theorem dec_nil (u : Nat) : Lib.decDigits u ≠ [] := by
  intro h
  have := Lib.decDigits_length u
  have := Lib.nDigits_pos u
  rw [h] at *
  simp at *; omega
theorem dec_head : ∀ {u : Nat}, 0 < u → ∃ c l, Lib.decDigits u = c :: l ∧ c ≠ 48 := by
  intro u
  induction u using Nat.strongRecOn with
  | _ u ih =>
    intro h0
    rw [Lib.decDigits]
    by_cases h : u < 10
    · rw [dif_pos h]
      refine ⟨_, _, rfl, fun e => ?_⟩
      have := congrArg UInt8.toNat e
      rw [u8_toNat h] at this
      have e8 : (48 : UInt8).toNat = 48 := rfl
      omega
    · rw [dif_neg h]
      obtain ⟨c, l, h1, h2⟩ := ih (u / 10) (by omega) (by omega)
      rw [h1]
      exact ⟨c, _, rfl, h2⟩
theorem dec_strip {u : Nat} (h : 0 < u) : stripL (Lib.decDigits u) = Lib.decDigits u := by
  obtain ⟨c, l, h1, h2⟩ := dec_head h
  rw [h1]; unfold stripL
  rw [List.dropWhile_cons, if_neg (by simpa using h2)]
/-- Without the noughts behind. -/
theorem stripZ_eq (l : List UInt8) : ∃ n, l = stripZ l ++ List.replicate n 48 := by
  refine ⟨(l.reverse.takeWhile (· == 48)).length, ?_⟩
  have h := List.takeWhile_append_dropWhile (p := fun c : UInt8 => c == 48) (l := l.reverse)
  have h2 : l.reverse.takeWhile (· == 48) = List.replicate (l.reverse.takeWhile (· == 48)).length 48 := by
    rw [List.eq_replicate_iff]
    refine ⟨rfl, fun b hb => ?_⟩
    have key : ∀ (m : List UInt8) (b : UInt8), b ∈ m.takeWhile (· == 48) → b = 48 := by
      intro m
      induction m with
      | nil => intro b h; simp at h
      | cons a m ih =>
        intro b h
        rw [List.takeWhile_cons] at h
        split at h
        · rename_i ha
          rcases List.mem_cons.1 h with h | h
          · rw [h]; simpa using ha
          · exact ih b h
        · simp at h
    exact key _ b hb
  have h3 := congrArg List.reverse h
  rw [List.reverse_reverse, List.reverse_append] at h3
  conv => lhs; rw [← h3]
  unfold stripZ
  congr 1
  rw [h2, List.reverse_replicate, List.length_replicate]
theorem stripZ_last (l : List UInt8) : stripZ l = [] ∨ ∃ m c, stripZ l = m ++ [c] ∧ c ≠ 48 := by
  unfold stripZ
  cases h : l.reverse.dropWhile (· == 48) with
  | nil => left; rfl
  | cons c m =>
    right
    refine ⟨m.reverse, c, by rw [List.reverse_cons], fun e => ?_⟩
    have := List.head_dropWhile_not (p := fun x : UInt8 => x == 48) (l := l.reverse) (by rw [h]; exact List.cons_ne_nil _ _)
    simp only [h, List.head_cons] at this
    rw [e] at this; simp at this
theorem stripZ_mem {l : List UInt8} {c : UInt8} (h : c ∈ stripZ l) : c ∈ l := by
  obtain ⟨n, hn⟩ := stripZ_eq l
  rw [hn]; exact List.mem_append_left _ h
theorem stripZ_len (l : List UInt8) : (stripZ l).length ≤ l.length := by
  obtain ⟨n, hn⟩ := stripZ_eq l
  have := congrArg List.length hn
  rw [List.length_append] at this; omega
theorem valD_repl (n : Nat) : valD (List.replicate n 48) = 0 := valD_zeros (fun c hc => (List.mem_replicate.1 hc).2)
theorem stripZ_val (l : List UInt8) : valD l = valD (stripZ l) * 10 ^ (l.length - (stripZ l).length) := by
  obtain ⟨n, hn⟩ := stripZ_eq l
  have h2 := congrArg List.length hn
  rw [List.length_append, List.length_replicate] at h2
  conv => lhs; rw [hn]
  rw [valD_append, valD_repl, Nat.add_zero, List.length_replicate]
  congr 2; omega
theorem stripZ_take (l : List UInt8) : stripZ l = l.take (stripZ l).length := by
  obtain ⟨n, hn⟩ := stripZ_eq l
  have h : (stripZ l ++ List.replicate n 48).take (stripZ l).length = stripZ l := List.take_left ..
  rw [← hn] at h
  exact h.symm
theorem stripZ_nil {l : List UInt8} (h : stripZ l = []) : valD l = 0 := by
  rw [stripZ_val, h]; simp [valD]

/-! ### the shortest digits -/
theorem inI_pos {r d : Nat} {p : Int} (h : 0 < r) (h1 : InI r (decA d p) (decB10 p)) : 1 ≤ d := by
  rcases Nat.eq_zero_or_pos d with h0 | h0
  · have hm : 0 < mid (r - 1) := by
      have := rv_lt (show r - 1 < r - 1 + 1 by omega)
      unfold mid; omega
    have hb : 0 < decB10 p := Nat.pow_pos (by decide)
    have h2 := Nat.mul_pos hm hb
    have h3 : decA d p = 0 := by unfold decA; rw [h0]; simp
    rcases h1.low with l | l | l
    · omega
    · rw [h3] at l; omega
    · rw [h3] at l; omega
  · exact h0
theorem fMin_pos {r : Nat} (h : 0 < r) (hr : r < 9218868437227405312) : 1 ≤ fMin r := by
  rcases Nat.eq_zero_or_pos (fMin r) with h0 | h0
  · have := inI_pos h ((short_iff h hr 0).2 ⟨by omega, Nat.zero_le _⟩)
    omega
  · exact h0
theorem short_between {r : Nat} (h : 0 < r) (hr : r < 9218868437227405312) : ((shortN r).1 = fMax r / 10 ∧ (shortN r).2 = 1 - fP r ∧ fMin r ≤ fMax r / 10 * 10) ∨
    (¬ fMin r ≤ fMax r / 10 * 10 ∧ (shortN r).2 = -fP r ∧ (shortN r).1 = if fMin r < fMax r then rndU (usc r (xM r)) else fMin r) := by
  unfold shortN
  by_cases h1 : fMin r ≤ fMax r / 10 * 10
  · rw [if_pos h1]; exact .inl ⟨rfl, rfl, h1⟩
  · rw [if_neg h1]
    right
    split
    · exact ⟨h1, rfl, rfl⟩
    · exact ⟨h1, rfl, rfl⟩
end Go.Proofs.YtagkgfniihiinaaGreatDoor
