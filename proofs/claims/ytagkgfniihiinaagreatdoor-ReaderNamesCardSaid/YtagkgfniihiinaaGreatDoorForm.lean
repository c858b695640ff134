/- Is a value's text, or list, as its kind asks? -/
import Derived.Test.YtagkgfniihiinaaGreatDoorNothing
import Derived.Test.YtagkgfniihiinaaGreatDoorCrlfB
import Derived.Shelf.Strings.SlTrimAscii
namespace Go.Proofs.YtagkgfniihiinaaGreatDoor
open Go.RowKit Go.Shelf Go.Lib

abbrev digits10 : List UInt8 := [48, 49, 50, 51, 52, 53, 54, 55, 56, 57]
def bigB (s : ByteArray) : Bool := !(Lib.trimPrefix s.data.toList [45]).isEmpty && (Lib.trimS (Lib.trimPrefix s.data.toList [45]) digits10).isEmpty
theorem trim_any (s : ByteArray) (w : World) (hs : s.size ≤ 9223372036854775807) : Calls Tryz.prog 167 #[.string s, .string ⟨#[48, 49, 50, 51, 52, 53, 54, 55, 56, 57]⟩] w fun e w' => e = .returned (.string ⟨(Lib.trimS s.data.toList digits10).toArray⟩) ∧ Below w.heap.size w w' :=
  Any.strings_Trim_laid Tryz.lays160 (by kernel_rfl) s ⟨#[48, 49, 50, 51, 52, 53, 54, 55, 56, 57]⟩ w hs (by decide) (ascii_of_all (by decide))
theorem trimPrefix_len (l p : List UInt8) : (Lib.trimPrefix l p).length ≤ l.length := by
  unfold Lib.trimPrefix
  split
  · simp
  · exact Nat.le_refl _
theorem ba_list (l : List UInt8) : (ByteArray.mk l.toArray).data.toList = l := by simp
theorem big_any (s : ByteArray) (w : World) (hs : s.size ≤ 9223372036854775807) : Calls Tryz.prog 132 #[.string s] w fun e w' => e = .returned (.bool (bigB s)) ∧ Below w.heap.size w w' := by
  have hp := Tryz.strings_TrimPrefix s ⟨#[45]⟩ w
  have hl := trimPrefix_len s.data.toList [45]
  have e1 : (ByteArray.mk #[45]).data.toList = [45] := rfl
  rw [e1] at hp
  unfold bigB
  have hsl : s.data.toList.length = s.size := by simp
  rw [hsl] at hl
  obtain ⟨t, ht⟩ : ∃ t : ByteArray, t = ⟨(Lib.trimPrefix s.data.toList [45]).toArray⟩ := ⟨_, rfl⟩
  have ht' : Lib.trimPrefix s.data.toList [45] = t.data.toList := by rw [ht]
  rw [ht'] at hl ⊢
  rw [← ht] at hp
  have htr := trim_any t w (by have : t.data.toList.length = t.size := by simp
                               omega)
  have hte : t.toList = t.data.toList := Lib.toList_data t
  obtain ⟨u, hu⟩ : ∃ u : ByteArray, u = ⟨(Lib.trimS t.data.toList digits10).toArray⟩ := ⟨_, rfl⟩
  have hu' : Lib.trimS t.data.toList digits10 = u.data.toList := by rw [hu]
  rw [hu'] at ⊢
  rw [← hu] at htr
  have hue : u.toList = u.data.toList := Lib.toList_data u
  rw [← hte, ← hue]
  replace hp := Lib.hid hp
  replace htr := Lib.hid htr
  clear ht ht' hl e1 hsl hte hu hu' hue
  by_cases h1 : t.toList = []
  · have h1' : t.toList.isEmpty = true := by simp [h1]
    have h1'' : (!t.toList.isEmpty) = false := by simp [h1]
    go_enter Tryz.func132, Tryz.ntmps132
    go_wp2_with (go_at_call 166; refine hp.out.mono ?_; rintro e w' ⟨rfl, hw⟩; rw [hw])
    go_ret
    exact ⟨by simp [h1], Below.refl _ _⟩
  · have h1' : t.toList.isEmpty = false := by simp [h1]
    have h1'' : (!t.toList.isEmpty) = true := by simp [h1]
    go_enter Tryz.func132, Tryz.ntmps132
    go_wp2_with (first | (go_at_call 166; refine hp.out.mono ?_; rintro e w' ⟨rfl, hw⟩; rw [hw]) | (go_at_call 167; refine htr.out.mono ?_; rintro e w1 ⟨rfl, hb⟩))
    go_ret
    exact ⟨by simp [h1], hb⟩

def colonB (s : ByteArray) : Bool := if h : 3 < s.size then s[3]'h == 58 else false
def formB (k : Int) (t : ByteArray) (n : Nat) : Bool :=
  if k = 1 ∨ k = 2 then !crlfB t else if k = 9 then bigB t else if k = 11 then colonB t else if k = 12 then decide (n % 2 = 0) else if k = 14 then decide (0 < n) else true
set_option maxHeartbeats 1600000 in
theorem form_any (k : Int) (t : ByteArray) (i : Int) (r : Nat) (f : Bool) (a : Option Addr) (n cap : Nat) (w : World) (ht : t.size ≤ 9223372036854775807) (hn : n ≤ 100000) :
    Calls Tryz.prog 107 #[.agg #[.int .i64 k, .string t, .int .i64 i, .float .f64 r, .bool f, .slice a n cap]] w fun e w' => e = .returned (.bool (formB k t n)) ∧ Below w.heap.size w w' := by
  have hal := fun (o : Obj) => (Below.refl w.heap.size w).alloc (Nat.le_refl _) o
  have hca := fun (W : World) => cany_any t W ht
  have hbg := fun (W : World) => big_any t W ht
  replace hal := Lib.hid hal
  replace hca := Lib.hid hca
  replace hbg := Lib.hid hbg
  rcases (by omega : k = 1 ∨ k = 2 ∨ k = 9 ∨ k = 11 ∨ k = 12 ∨ k = 14 ∨ (k ≠ 1 ∧ k ≠ 2 ∧ k ≠ 9 ∧ k ≠ 11 ∧ k ≠ 12 ∧ k ≠ 14)) with rfl | rfl | rfl | rfl | rfl | rfl | h
  · rw [show formB 1 t n = !crlfB t by simp [formB]]
    go_enter Tryz.func107, Tryz.ntmps107
    go_wp2_with fail
    refine (hca.out _).mono ?_
    rintro e w1 ⟨rfl, hb⟩
    have hbb := (hal.out (.cells #[.int .i64 1, .string t, .int .i64 i, .float .f64 r, .bool f, .slice a n cap] 26)).trans (hb.mono (by simp))
    go_wp2
    go_ret
    exact ⟨rfl, hbb⟩
  · rw [show formB 2 t n = !crlfB t by simp [formB]]
    go_enter Tryz.func107, Tryz.ntmps107
    go_wp2_with fail
    refine (hca.out _).mono ?_
    rintro e w1 ⟨rfl, hb⟩
    have hbb := (hal.out (.cells #[.int .i64 2, .string t, .int .i64 i, .float .f64 r, .bool f, .slice a n cap] 26)).trans (hb.mono (by simp))
    go_wp2
    go_ret
    exact ⟨rfl, hbb⟩
  · rw [show formB 9 t n = bigB t by simp [formB]]
    go_enter Tryz.func107, Tryz.ntmps107
    go_wp2_with fail
    refine (hbg.out _).mono ?_
    rintro e w1 ⟨rfl, hb⟩
    have hbb := (hal.out (.cells #[.int .i64 9, .string t, .int .i64 i, .float .f64 r, .bool f, .slice a n cap] 26)).trans (hb.mono (by simp))
    go_wp2
    go_ret
    exact ⟨rfl, hbb⟩
  · rw [show formB 11 t n = colonB t by simp [formB]]
    by_cases h3 : 3 < t.size
    · obtain ⟨b, hb⟩ : ∃ b, t[3]'h3 = b := ⟨_, rfl⟩
      rw [show colonB t = (b == 58) by rw [colonB, dif_pos h3, hb]]
      have h3i : (3 : Int) < (t.size : Int) := by omega
      go_enter Tryz.func107, Tryz.ntmps107
      go_wp2
      go_ret
      refine ⟨?_, hal.out _⟩
      have : ((b.toNat : Int) == 58) = (b == 58) := by
        rw [Bool.eq_iff_iff]; simp
        constructor
        · intro h; exact UInt8.toNat_inj.1 (by simpa using (by omega : b.toNat = 58))
        · intro h; subst h; rfl
      simp [← this]
    · rw [show colonB t = false by rw [colonB, dif_neg h3]]
      have h3i : ¬ (3 : Int) < (t.size : Int) := by omega
      go_enter Tryz.func107, Tryz.ntmps107
      go_wp2
      go_ret
      exact ⟨rfl, hal.out _⟩
  · rw [show formB 12 t n = decide (n % 2 = 0) by simp [formB]]
    go_enter Tryz.func107, Tryz.ntmps107
    go_wp2
    go_ret
    refine ⟨?_, hal.out _⟩
    have : (((n : Int) % 2) == 0) = decide (n % 2 = 0) := by
      rw [Bool.eq_iff_iff]; simp; omega
    simp [← this]
  · rw [show formB 14 t n = decide (0 < n) by simp [formB]]
    go_enter Tryz.func107, Tryz.ntmps107
    go_wp2
    go_ret
    refine ⟨?_, hal.out _⟩
    simp
  · obtain ⟨q1, q2, q9, q11, q12, q14⟩ := h
    rw [show formB k t n = true by simp [formB, q1, q2, q9, q11, q12, q14]]
    have h1 : (k == 1) = false := by simpa using q1
    have h2 : (k == 2) = false := by simpa using q2
    have h9 : (k == 9) = false := by simpa using q9
    have h11 : (k == 11) = false := by simpa using q11
    have h12 : (k == 12) = false := by simpa using q12
    have h14 : (k == 14) = false := by simpa using q14
    clear q1 q2 q9 q11 q12 q14
    go_enter Tryz.func107, Tryz.ntmps107
    go_wp2
    go_ret
    exact ⟨rfl, hal.out _⟩
end Go.Proofs.YtagkgfniihiinaaGreatDoor
