/- Lists within lists, and a set of many: plain facts (for ValueDeep). -/
import Derived.Test.YtapiinfnedhmoaaDoorParts03
namespace Go.Proofs.YtapiinfnedhmoaaDoor
open Go.RowKit

/-- A seven within k lists. -/
def nestV : Nat → V
  | 0 => .mk 3 ⟨#[]⟩ 7 0 false []
  | k + 1 => .mk 5 ⟨#[]⟩ 0 0 false [nestV k]
theorem nest_count : ∀ k, (nestV k).count = k + 1
  | 0 => rfl
  | k + 1 => by simp [nestV, V.count, V.countL, nest_count k]
theorem nest_dep : ∀ k, (nestV k).dep = k
  | 0 => by simp [nestV, V.dep_eq, V.kind, listK]
  | k + 1 => by
    have := nest_dep k
    rw [V.dep_eq]
    simp only [nestV, V.kind, V.list, V.depL, this]
    simp [listK]
theorem nest_kind (k : Nat) : (nestV k).kind ≠ 14 := by cases k <;> simp [nestV, V.kind]
theorem nest_check0 : checkZ (nestV 0) = 0 := by kernel_rfl
theorem nest_checkB : ∀ k, k ≤ 900 → (checkZ (nestV k) == 0) = decide (k ≤ 8)
  | 0, _ => by rw [nest_check0]; rfl
  | k + 1, h => by
    have h1 := nest_checkB k (by omega)
    have h2 := parts_law [nestV k]
    have h3 : V.countL [nestV k] = k + 1 := by simp [V.countL, nest_count k]
    have h4 : V.depL [nestV k] = k := by simp [V.depL, nest_dep k]
    have h5 : [nestV k].all partB = decide (k ≤ 8) := by simp [partB, h1, nest_kind k]
    rw [h3, h4, h5] at h2
    show (checkZ (.mk 5 ⟨#[]⟩ 0 0 false [nestV k]) == 0) = _
    rw [h2, decide_eq_true (show k + 1 + 1 ≤ 1000 by omega), Bool.and_true, Bool.eq_iff_iff]
    simp; omega
theorem check_or (v : V) : checkZ v = 0 ∨ checkZ v = 31 := by unfold checkZ; split <;> simp
theorem nest_sized : ∀ k, (nestV k).sized
  | 0 => (V.sized_eq _).2 ⟨by show (0 : Nat) ≤ _; omega, trivial⟩
  | k + 1 => (V.sized_eq _).2 ⟨by show (0 : Nat) ≤ _; omega, nest_sized k, trivial⟩

abbrev vNil : V := .mk 6 ⟨#[]⟩ 0 0 false []
/-- A set of so many nothings. -/
def setV (m : Nat) : V := .mk 13 ⟨#[]⟩ 0 0 false (List.replicate m vNil)
theorem nil_fine : ∀ d, 0 ≤ d → V.fine vNil d = true := fun d hd => by
  have h1 : okV vNil = true := by kernel_rfl
  have h2 : listK (V.kind vNil) = false := by kernel_rfl
  rw [V.fine_eq, h1, h2]
  rfl
theorem rep_fine : ∀ m, V.fineL (List.replicate m vNil) 7 = true
  | 0 => by simp [V.fineL]
  | m + 1 => by rw [List.replicate_succ]; simp only [V.fineL, rep_fine m, nil_fine 7 (by omega)]; simp [V.kind]
theorem rep_count : ∀ m, V.countL (List.replicate m vNil) = m
  | 0 => rfl
  | m + 1 => by rw [List.replicate_succ]; simp only [V.countL, rep_count m]; simp [V.count, V.countL]; omega
theorem set_count (m : Nat) : (setV m).count = m + 1 := by simp only [setV, V.count, rep_count]
theorem rep_sized : ∀ m, V.sizedL (List.replicate m vNil)
  | 0 => trivial
  | m + 1 => by rw [List.replicate_succ]; exact ⟨(V.sized_eq _).2 ⟨by show (0 : Nat) ≤ _; omega, trivial⟩, rep_sized m⟩
theorem set_sized (m : Nat) : (setV m).sized := (V.sized_eq _).2 ⟨by show (0 : Nat) ≤ _; omega, rep_sized m⟩
theorem set_ok (m : Nat) : okV (setV m) = true := by
  have hb : bitsN 0 = 0 := by kernel_rfl
  have he : emptyS ⟨#[]⟩ = true := by kernel_rfl
  simp [setV, okV, knownK, nothingV, nothingB, formB, V.kind, V.text, V.int, V.real, V.flag, V.list, listK, hb, he, ByteArray.size]
theorem set_checkB (m : Nat) : (checkZ (setV m) == 0) = decide (m < 1000) := by
  have hf : (setV m).fine 8 = true := by
    rw [V.fine_eq, set_ok]
    have h1 := rep_fine m
    simp only [setV, V.kind, V.list]
    rw [show (8 : Int) - 1 = 7 by rfl, h1]
    simp
  unfold checkZ
  rw [hf, set_count]
  by_cases h : m < 1000
  · rw [if_pos ⟨rfl, by omega⟩, decide_eq_true h]; rfl
  · rw [if_neg (fun h' => h (by omega)), decide_eq_false h]; rfl
/-- A set's cells, its list's elements in a row. -/
theorem rep_rvs (c : Addr → Option Value) (m : Nat) : RVs c (List.replicate m [.int .i64 6, .string ⟨#[]⟩, .int .i64 0, .float .f64 0, .bool false, .slice none 0 0]) (List.replicate m vNil) :=
  ⟨by simp, fun j x y hx hy => by
    have h1 := List.mem_of_getElem? hx
    have h2 := List.mem_of_getElem? hy
    rw [(List.mem_replicate.1 h1).2, (List.mem_replicate.1 h2).2]
    exact RV.leaf _ _ _ _ _ _ _ _⟩
end Go.Proofs.YtapiinfnedhmoaaDoor
