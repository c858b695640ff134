/- What is made of texts and numbers can be: plain facts (for ValueMade). -/
import Derived.Test.YtapiinfnedhmoaaDoorParts03
namespace Go.Proofs.YtapiinfnedhmoaaDoor
open Go.RowKit

theorem check_leaf (k : Int) (t : ByteArray) (i : Int) (r : Nat) (f : Bool) (hk : listK k = false) : checkZ (.mk k t i r f []) = if okV (.mk k t i r f []) = true then 0 else 31 := by
  unfold checkZ
  rw [V.fine_eq]
  simp [V.kind, V.list, hk, V.fineL, V.count, V.countL]
theorem check_text (s : ByteArray) : checkZ (.mk 4 s 0 0 false []) = if s.size ≤ 4096 then 0 else 31 := by
  rw [check_leaf 4 s 0 0 false (by rfl)]
  have hb : bitsN 0 = 0 := by kernel_rfl
  by_cases h : s.size ≤ 4096 <;> simp [okV, knownK, nothingV, nothingB, formB, V.kind, V.text, V.int, V.real, V.flag, V.list, listK, textK, hb, h]
theorem check_int (n : Int) : checkZ (.mk 3 ⟨#[]⟩ n 0 false []) = 0 := by
  rw [check_leaf 3 ⟨#[]⟩ n 0 false (by rfl)]
  have hb : bitsN 0 = 0 := by kernel_rfl
  have he : emptyS ⟨#[]⟩ = true := by kernel_rfl
  simp [okV, knownK, nothingV, nothingB, formB, V.kind, V.text, V.int, V.real, V.flag, V.list, listK, numK, hb, he, ByteArray.size]
theorem check_fail (s : ByteArray) (hs : s.size ≤ 4096) : checkZ (.mk 2 s 0 0 false []) = if crlfB s = true then 31 else 0 := by
  rw [check_leaf 2 s 0 0 false (by rfl)]
  have hb : bitsN 0 = 0 := by kernel_rfl
  cases h : crlfB s <;> simp [okV, knownK, nothingV, nothingB, formB, V.kind, V.text, V.int, V.real, V.flag, V.list, listK, textK, hb, hs, h]
theorem check_ok : checkZ (.mk 1 ⟨#[79, 75]⟩ 0 0 false []) = 0 := by kernel_rfl
theorem check_nil : checkZ (.mk 6 ⟨#[]⟩ 0 0 false []) = 0 := by kernel_rfl
/-- The list of four that ValueMade makes. -/
def four (s : ByteArray) (n : Int) : List V := [.mk 4 s 0 0 false [], .mk 3 ⟨#[]⟩ n 0 false [], .mk 1 ⟨#[79, 75]⟩ 0 0 false [], .mk 6 ⟨#[]⟩ 0 0 false []]
theorem check_four (s : ByteArray) (n : Int) (hs : s.size ≤ 4096) : checkZ (.mk 5 ⟨#[]⟩ 0 0 false (four s n)) = 0 := by
  have h := parts_law (four s n)
  have h4 : checkZ (.mk 4 s 0 0 false []) = 0 := by rw [check_text, if_pos hs]
  have ha : (four s n).all partB = true := by simp [four, partB, h4, check_int, check_ok, check_nil, V.kind]
  have hd : V.depL (four s n) = 0 := by simp [four, V.depL, V.dep_eq, V.kind, listK]
  have hc : V.countL (four s n) = 4 := by simp [four, V.countL, V.count]
  rw [ha, hd, hc] at h
  simpa using h
theorem four_rv (s : ByteArray) (n : Int) (w : World) (e : TypeId) : RV (w.alloc (.cells #[.int .i64 4, .string s, .int .i64 0, .float .f64 0, .bool false, .slice none 0 0, .int .i64 3, .string ⟨#[]⟩, .int .i64 n, .float .f64 0, .bool false, .slice none 0 0, .int .i64 1, .string ⟨#[79, 75]⟩, .int .i64 0, .float .f64 0, .bool false, .slice none 0 0, .int .i64 6, .string ⟨#[]⟩, .int .i64 0, .float .f64 0, .bool false, .slice none 0 0] e)).cell? (cells6 5 ⟨#[]⟩ 0 0 false (some ⟨w.heap.size, 0, none⟩) 4 4) (.mk 5 ⟨#[]⟩ 0 0 false (four s n)) := by
  refine RV.mk 5 ⟨#[]⟩ 0 0 false (some ⟨w.heap.size, 0, none⟩) 4 4 (four s n) [cells6 4 s 0 0 false none 0 0, cells6 3 ⟨#[]⟩ n 0 false none 0 0, cells6 1 ⟨#[79, 75]⟩ 0 0 false none 0 0, cells6 6 ⟨#[]⟩ 0 0 false none 0 0] (by rfl) (by rfl) (fun j x hx => ?_) (fun j x y hx hy => ?_)
  · rcases j with _ | _ | _ | _ | j
    all_goals
      simp at hx
      try subst hx
      try refine ⟨w.heap.size, 0, rfl, fun q u hu => ?_⟩
      try rw [World.cell?_alloc_new]
      try (rcases q with _ | _ | _ | _ | _ | _ | q <;> first | exact hu | (simp [cells6] at hu))
  · rcases j with _ | _ | _ | _ | j
    all_goals
      simp [four] at hx hy
      try subst hx
      try subst hy
      try exact RV.leaf _ _ _ _ _ _ _ _
end Go.Proofs.YtapiinfnedhmoaaDoor
