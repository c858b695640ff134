/- WordsErrors: its plain law (no program in sight). -/
import Derived.Test.YtdhojdkeidilfaaDoorCasesP
import Derived.Lib.ItoaNum
import Derived.Lib.ItoaLen
import Derived.Lib.AppendIntMem
namespace Go.Proofs.YtdhojdkeidilfaaDoor
open Go.RowKit

theorem digits_dec : ∀ (u : Nat), ∀ c ∈ Lib.decDigits u, 48 ≤ c.toNat ∧ c.toNat ≤ 57 := by
  intro u
  induction u using Nat.strongRecOn with
  | _ u ih =>
    intro c hc
    rw [Lib.decDigits] at hc
    split at hc
    · rename_i h
      rw [List.mem_singleton.1 hc, UInt8.toNat_ofNat']; omega
    · rename_i h
      rcases List.mem_append.1 hc with hc | hc
      · exact ih (u / 10) (by omega) c hc
      · have : u % 10 < 10 := Nat.mod_lt _ (by decide)
        rw [List.mem_singleton.1 hc, UInt8.toNat_ofNat']; omega
theorem itoa_bytes (x : Int) : ∀ c ∈ Lib.itoa x, 32 ≤ c.toNat ∧ c.toNat ≤ 126 := by
  intro c hc
  rw [Lib.itoa] at hc
  split at hc
  · rcases List.mem_cons.1 hc with rfl | h
    · decide
    · have := digits_dec _ c h; omega
  · have := digits_dec _ c hc; omega
/-- A line that may stand: printable, at most 100 long, and it begins with a great letter. -/
def lineB (l : List UInt8) : Bool := decide (l.length ≤ 100) && l.all (fun b => decide (32 ≤ b.toNat) && decide (b.toNat ≤ 126)) && (match l with | [] => true | b :: _ => decide (65 ≤ b.toNat) && decide (b.toNat ≤ 90))
theorem lineB_err (l : List UInt8) (hl : l.length ≤ 60) (h : ∀ c ∈ l, 32 ≤ c.toNat ∧ c.toNat ≤ 126) : lineB ([69, 82, 82, 32] ++ l) = true := by
  simp only [lineB, Bool.and_eq_true, decide_eq_true_eq]
  refine ⟨⟨by simp; omega, ?_⟩, rfl⟩
  rw [List.all_append, Bool.and_eq_true]
  exact ⟨by decide, List.all_eq_true.2 fun c hc => by have := h c hc; simp; omega⟩
theorem lineB_unknown : lineB eUnknown.data.toList = true := by decide
theorem lineB_none : lineB eNone.data.toList = true := by decide
theorem lineB_wrong : ∀ x ∈ words17, lineB (eWrong x.name).data.toList = true := by decide +kernel
theorem lineB_check (keys : List ByteArray) : lineB (checkF keys).2.data.toList = true := by
  cases keys with
  | nil => exact lineB_none
  | cons k ks =>
    rw [checkF]
    by_cases hf : (found words17 (upB k)).2 = false
    · rw [if_pos hf]; exact lineB_unknown
    · rw [if_neg hf, checkS]
      split
      · exact lineB_wrong _ (found_mem (by simpa using hf))
      · rfl
end Go.Proofs.YtdhojdkeidilfaaDoor
