/- nearhandref01.Parse at every text: the number that it is, or the error's number 11. -/
import Derived.Test.YtagkgfniihiinaaGreatDoorNum
import Derived.Test.YtagkgfniihiinaaGreatDoorShelf
import Derived.Test.YtagkgfniihiinaaGreatDoorProg
import Derived.Lib.IndexBytes
import Derived.Deep.LoopGhost
namespace Go.Proofs.YtagkgfniihiinaaGreatDoor
open Go.RowKit

/-- A number and no error, or nought and the error. -/
def NumOr (r : Option Int) (err : Int) (w : World) (e : Ending) (w' : World) : Prop := (e = .returned (.tuple #[.int .i64 (r.getD 0), .int .i64 (if r.isSome then 0 else err)])) ∧ Below w.heap.size w w'
theorem numOr_none {w w' : World} {err : Int} {e : Ending} (h : e = .returned (.tuple #[.int .i64 0, .int .i64 err])) (hb : Below w.heap.size w w') : NumOr none err w e w' := ⟨h, hb⟩
theorem numOr_some {v : Int} {w w' : World} {err : Int} {e : Ending} (h : e = .returned (.tuple #[.int .i64 v, .int .i64 0])) (hb : Below w.heap.size w w') : NumOr (some v) err w e w' := ⟨h, hb⟩

def posD (D : Option Int) : Option Int := match D with | some n => if n = least then none else some (-n) | none => none
set_option maxRecDepth 100000 in
set_option maxHeartbeats 6400000 in
theorem parse01_loopN (t : ByteArray) (h0 : 0 < t.size) (h1 : t.size ≤ 19) (h2 : (t[0]'h0).toNat ≠ 45) (h3 : (t[0]'h0).toNat = 48 → t.size = 1) (D : Option Int) (hd : digs t.data.toList 0 = D) (w : World) :
    Calls Tryz.prog 91 #[.string t] w (NumOr (posD D) 11 w) := by
  obtain ⟨c0, hc0⟩ : ∃ c : UInt8, t[0]'h0 = c := ⟨_, rfl⟩
  rw [hc0] at h2 h3
  have f1 : ((c0.toNat : Int) == 45) = false := by simpa using fun h => h2 (by omega)
  have h0i : (0 : Int) < t.size := by omega
  have h0z : ((t.size : Int) == 0) = false := beq_eq_false_iff_ne.2 (by omega)
  have h1i : ¬ (19 : Int) < t.size := by omega
  replace hd := Lib.hid hd
  by_cases hz : c0.toNat = 48
  · have f2 : ((c0.toNat : Int) == 48) = true := by simpa using by omega
    have h3i : ¬ (1 : Int) < t.size := by have := h3 hz; omega
    clear h2 h3 hz
    go_enter Tryz.func91, Tryz.ntmps91
    go_wp2_with fail
    go_loopw [6, 7] (fun n i wr => ∃ (k : Nat) (z : Int), k ≤ t.size ∧ digs (t.data.toList.drop k) z = D ∧ n = .int .i64 z ∧ i = .int .i64 k ∧ -9223372036854775808 ≤ z ∧ z ≤ 0 ∧ Below w.heap.size w wr) (fun _ i _ => t.size - (intOf i).toNat)
    case atStart => exact ⟨0, 0, Nat.zero_le _, hd.out, rfl, rfl, by omega, by omega, Below.refl _ _⟩
    case round =>
      obtain ⟨k, z, hk, hz, rfl, rfl, z1, z2, hbel⟩ := hrel
      clear hd
      by_cases hlt : k < t.size
      · obtain ⟨c, hc⟩ : ∃ c : UInt8, t[k]'hlt = c := ⟨_, rfl⟩
        have hcl : t.data.toList[k]? = some c := by rw [Lib.data_getElem? t k hlt, hc]
        obtain ⟨hk2, hcc⟩ := List.getElem?_eq_some_iff.1 hcl
        rw [List.drop_eq_getElem_cons hk2, hcc, digs] at hz
        have hlti : (k : Int) < t.size := by omega
        by_cases p1 : (c.toNat : Int) - 48 < 0 ∨ 9 < (c.toNat : Int) - 48
        · rw [if_pos p1] at hz
          subst hz
          obtain ⟨d, hd⟩ : ∃ d, d = (c.toNat : Int) - 48 := ⟨_, rfl⟩
          have hc256 : c.toNat < 256 := c.toNat_lt
          rw [← hd] at p1
          have q0 : -48 ≤ d ∧ d ≤ 207 := by omega
          by_cases q1 : d < 0
          · clear p1 hcc hk2 hcl
            go_wp2_with fail
            rw [← hd]
            go_wp2_with fail
            go_ret2
            exact numOr_none rfl hbel
          · have q2 : 9 < d := by omega
            clear p1 hcc hk2 hcl
            go_wp2_with fail
            rw [← hd]
            go_wp2_with fail
            go_ret2
            exact numOr_none rfl hbel
        · rw [if_neg p1] at hz
          obtain ⟨d, hd⟩ : ∃ d, d = (c.toNat : Int) - 48 := ⟨_, rfl⟩
          have hc256 : c.toNat < 256 := c.toNat_lt
          rw [← hd] at hz p1
          have q1 : ¬ d < 0 := by omega
          have q2 : ¬ 9 < d := by omega
          by_cases p2 : z < -922337203685477580 ∨ z = -922337203685477580 ∧ 8 < d
          · rw [if_pos p2] at hz
            subst hz
            by_cases q3 : z < -922337203685477580
            · clear p1 p2 hcc hk2 hcl
              go_wp2_with fail
              rw [← hd]
              go_wp2_with fail
              go_ret2
              exact numOr_none rfl hbel
            · have q4 : z = -922337203685477580 := by omega
              have q5 : 8 < d := by omega
              subst q4
              clear p1 p2 hcc hk2 hcl
              go_wp2_with fail
              rw [← hd]
              go_wp2_with fail
              go_ret2
              exact numOr_none rfl hbel
          · rw [if_neg p2] at hz
            have q3 : ¬ z < -922337203685477580 := by omega
            have q4 : ¬ (z = -922337203685477580 ∧ 8 < d) := by omega
            replace hz := Lib.hid hz
            replace q4 := Lib.hid q4
            have r1 : -9223372036854775808 ≤ 10 * z - d := by have := q4.out; omega
            have r2 : 10 * z - d ≤ 0 := by omega
            clear p1 p2 hcc hk2 hcl
            by_cases hze : z = -922337203685477580
            · have q5 : ¬ 8 < d := by have := q4.out; omega
              subst hze
              go_wp2_with fail
              rw [← hd]
              go_wp2_with fail
              go_roundw
              case rel => exact ⟨k + 1, _, by omega, hz.out, by go_num, by go_num, by omega, by omega, hbel⟩
              case measure => simp [intOf]; omega
            · have hzb : (z == -922337203685477580) = false := by simpa using hze
              go_wp2_with fail
              rw [← hd]
              go_wp2_with fail
              go_roundw
              case rel => exact ⟨k + 1, _, by omega, hz.out, by go_num, by go_num, by omega, by omega, hbel⟩
              case measure => simp [intOf]; omega
      · have hlti : ¬ (k : Int) < t.size := by omega
        rw [List.drop_eq_nil_of_le (by rw [Array.length_toList]; show t.size ≤ k; omega), digs] at hz
        subst hz
        by_cases hNb : z = -9223372036854775808
        · subst hNb
          go_wp2_with fail
          go_ret2
          exact numOr_none rfl hbel
        · have hNb' : (z == -9223372036854775808) = false := by simpa using hNb
          have z3 : -z ≤ 9223372036854775807 := by omega
          have z4 : -9223372036854775808 ≤ -z := by omega
          have e1 : posD (some z) = some (-z) := by unfold posD; simp only; rw [if_neg (show ¬ z = least from hNb)]
          go_wp2_with fail
          go_ret2
          exact numOr_some rfl hbel
  · have f2 : ((c0.toNat : Int) == 48) = false := by simpa using fun h => hz (by omega)
    clear h2 h3 hz
    go_enter Tryz.func91, Tryz.ntmps91
    go_wp2_with fail
    go_loopw [6, 7] (fun n i wr => ∃ (k : Nat) (z : Int), k ≤ t.size ∧ digs (t.data.toList.drop k) z = D ∧ n = .int .i64 z ∧ i = .int .i64 k ∧ -9223372036854775808 ≤ z ∧ z ≤ 0 ∧ Below w.heap.size w wr) (fun _ i _ => t.size - (intOf i).toNat)
    case atStart => exact ⟨0, 0, Nat.zero_le _, hd.out, rfl, rfl, by omega, by omega, Below.refl _ _⟩
    case round =>
      obtain ⟨k, z, hk, hz, rfl, rfl, z1, z2, hbel⟩ := hrel
      clear hd
      by_cases hlt : k < t.size
      · obtain ⟨c, hc⟩ : ∃ c : UInt8, t[k]'hlt = c := ⟨_, rfl⟩
        have hcl : t.data.toList[k]? = some c := by rw [Lib.data_getElem? t k hlt, hc]
        obtain ⟨hk2, hcc⟩ := List.getElem?_eq_some_iff.1 hcl
        rw [List.drop_eq_getElem_cons hk2, hcc, digs] at hz
        have hlti : (k : Int) < t.size := by omega
        by_cases p1 : (c.toNat : Int) - 48 < 0 ∨ 9 < (c.toNat : Int) - 48
        · rw [if_pos p1] at hz
          subst hz
          obtain ⟨d, hd⟩ : ∃ d, d = (c.toNat : Int) - 48 := ⟨_, rfl⟩
          have hc256 : c.toNat < 256 := c.toNat_lt
          rw [← hd] at p1
          have q0 : -48 ≤ d ∧ d ≤ 207 := by omega
          by_cases q1 : d < 0
          · clear p1 hcc hk2 hcl
            go_wp2_with fail
            rw [← hd]
            go_wp2_with fail
            go_ret2
            exact numOr_none rfl hbel
          · have q2 : 9 < d := by omega
            clear p1 hcc hk2 hcl
            go_wp2_with fail
            rw [← hd]
            go_wp2_with fail
            go_ret2
            exact numOr_none rfl hbel
        · rw [if_neg p1] at hz
          obtain ⟨d, hd⟩ : ∃ d, d = (c.toNat : Int) - 48 := ⟨_, rfl⟩
          have hc256 : c.toNat < 256 := c.toNat_lt
          rw [← hd] at hz p1
          have q1 : ¬ d < 0 := by omega
          have q2 : ¬ 9 < d := by omega
          by_cases p2 : z < -922337203685477580 ∨ z = -922337203685477580 ∧ 8 < d
          · rw [if_pos p2] at hz
            subst hz
            by_cases q3 : z < -922337203685477580
            · clear p1 p2 hcc hk2 hcl
              go_wp2_with fail
              rw [← hd]
              go_wp2_with fail
              go_ret2
              exact numOr_none rfl hbel
            · have q4 : z = -922337203685477580 := by omega
              have q5 : 8 < d := by omega
              subst q4
              clear p1 p2 hcc hk2 hcl
              go_wp2_with fail
              rw [← hd]
              go_wp2_with fail
              go_ret2
              exact numOr_none rfl hbel
          · rw [if_neg p2] at hz
            have q3 : ¬ z < -922337203685477580 := by omega
            have q4 : ¬ (z = -922337203685477580 ∧ 8 < d) := by omega
            replace hz := Lib.hid hz
            replace q4 := Lib.hid q4
            have r1 : -9223372036854775808 ≤ 10 * z - d := by have := q4.out; omega
            have r2 : 10 * z - d ≤ 0 := by omega
            clear p1 p2 hcc hk2 hcl
            by_cases hze : z = -922337203685477580
            · have q5 : ¬ 8 < d := by have := q4.out; omega
              subst hze
              go_wp2_with fail
              rw [← hd]
              go_wp2_with fail
              go_roundw
              case rel => exact ⟨k + 1, _, by omega, hz.out, by go_num, by go_num, by omega, by omega, hbel⟩
              case measure => simp [intOf]; omega
            · have hzb : (z == -922337203685477580) = false := by simpa using hze
              go_wp2_with fail
              rw [← hd]
              go_wp2_with fail
              go_roundw
              case rel => exact ⟨k + 1, _, by omega, hz.out, by go_num, by go_num, by omega, by omega, hbel⟩
              case measure => simp [intOf]; omega
      · have hlti : ¬ (k : Int) < t.size := by omega
        rw [List.drop_eq_nil_of_le (by rw [Array.length_toList]; show t.size ≤ k; omega), digs] at hz
        subst hz
        by_cases hNb : z = -9223372036854775808
        · subst hNb
          go_wp2_with fail
          go_ret2
          exact numOr_none rfl hbel
        · have hNb' : (z == -9223372036854775808) = false := by simpa using hNb
          have z3 : -z ≤ 9223372036854775807 := by omega
          have z4 : -9223372036854775808 ≤ -z := by omega
          have e1 : posD (some z) = some (-z) := by unfold posD; simp only; rw [if_neg (show ¬ z = least from hNb)]
          go_wp2_with fail
          go_ret2
          exact numOr_some rfl hbel

set_option maxRecDepth 100000 in
set_option maxHeartbeats 6400000 in
theorem parse01_loopM (s t : ByteArray) (h9 : 1 < s.size) (hs : (s[0]'(by omega)).toNat = 45) (ht : s.extract 1 s.size = t) (h0 : 0 < t.size) (h1 : t.size ≤ 19) (h3 : (t[0]'h0).toNat ≠ 48) (D : Option Int) (hd : digs t.data.toList 0 = D) (w : World) :
    Calls Tryz.prog 91 #[.string s] w (NumOr D 11 w) := by
  obtain ⟨c0, hc0⟩ : ∃ c : UInt8, t[0]'h0 = c := ⟨_, rfl⟩
  obtain ⟨c1, hc1⟩ : ∃ c : UInt8, s[0]'(by omega) = c := ⟨_, rfl⟩
  rw [hc0] at h3
  rw [hc1] at hs
  have f1 : ((c1.toNat : Int) == 45) = true := by simpa using by omega
  have h9i : (0 : Int) < s.size := by omega
  have h9j : (1 : Int) ≤ s.size := by omega
  have h0i : (0 : Int) < t.size := by omega
  have h0z : ((t.size : Int) == 0) = false := beq_eq_false_iff_ne.2 (by omega)
  have h1i : ¬ (19 : Int) < t.size := by omega
  have f2 : ((c0.toNat : Int) == 48) = false := by simpa using fun h => h3 (by omega)
  replace hd := Lib.hid hd
  clear h3
  go_enter Tryz.func91, Tryz.ntmps91
  go_wp2_with fail
  go_loopw [6, 7] (fun n i wr => ∃ (k : Nat) (z : Int), k ≤ t.size ∧ digs (t.data.toList.drop k) z = D ∧ n = .int .i64 z ∧ i = .int .i64 k ∧ -9223372036854775808 ≤ z ∧ z ≤ 0 ∧ Below w.heap.size w wr) (fun _ i _ => t.size - (intOf i).toNat)
  case atStart => exact ⟨0, 0, Nat.zero_le _, hd.out, rfl, rfl, by omega, by omega, Below.refl _ _⟩
  case round =>
    obtain ⟨k, z, hk, hz, rfl, rfl, z1, z2, hbel⟩ := hrel
    clear hd
    by_cases hlt : k < t.size
    · obtain ⟨c, hc⟩ : ∃ c : UInt8, t[k]'hlt = c := ⟨_, rfl⟩
      have hcl : t.data.toList[k]? = some c := by rw [Lib.data_getElem? t k hlt, hc]
      obtain ⟨hk2, hcc⟩ := List.getElem?_eq_some_iff.1 hcl
      rw [List.drop_eq_getElem_cons hk2, hcc, digs] at hz
      have hlti : (k : Int) < t.size := by omega
      by_cases p1 : (c.toNat : Int) - 48 < 0 ∨ 9 < (c.toNat : Int) - 48
      · rw [if_pos p1] at hz
        subst hz
        obtain ⟨d, hd⟩ : ∃ d, d = (c.toNat : Int) - 48 := ⟨_, rfl⟩
        have hc256 : c.toNat < 256 := c.toNat_lt
        rw [← hd] at p1
        have q0 : -48 ≤ d ∧ d ≤ 207 := by omega
        by_cases q1 : d < 0
        · clear p1 hcc hk2 hcl
          go_wp2_with fail
          rw [← hd]
          go_wp2_with fail
          go_ret2
          exact numOr_none rfl hbel
        · have q2 : 9 < d := by omega
          clear p1 hcc hk2 hcl
          go_wp2_with fail
          rw [← hd]
          go_wp2_with fail
          go_ret2
          exact numOr_none rfl hbel
      · rw [if_neg p1] at hz
        obtain ⟨d, hd⟩ : ∃ d, d = (c.toNat : Int) - 48 := ⟨_, rfl⟩
        have hc256 : c.toNat < 256 := c.toNat_lt
        rw [← hd] at hz p1
        have q1 : ¬ d < 0 := by omega
        have q2 : ¬ 9 < d := by omega
        by_cases p2 : z < -922337203685477580 ∨ z = -922337203685477580 ∧ 8 < d
        · rw [if_pos p2] at hz
          subst hz
          by_cases q3 : z < -922337203685477580
          · clear p1 p2 hcc hk2 hcl
            go_wp2_with fail
            rw [← hd]
            go_wp2_with fail
            go_ret2
            exact numOr_none rfl hbel
          · have q4 : z = -922337203685477580 := by omega
            have q5 : 8 < d := by omega
            subst q4
            clear p1 p2 hcc hk2 hcl
            go_wp2_with fail
            rw [← hd]
            go_wp2_with fail
            go_ret2
            exact numOr_none rfl hbel
        · rw [if_neg p2] at hz
          have q3 : ¬ z < -922337203685477580 := by omega
          have q4 : ¬ (z = -922337203685477580 ∧ 8 < d) := by omega
          replace hz := Lib.hid hz
          replace q4 := Lib.hid q4
          have r1 : -9223372036854775808 ≤ 10 * z - d := by have := q4.out; omega
          have r2 : 10 * z - d ≤ 0 := by omega
          clear p1 p2 hcc hk2 hcl
          by_cases hze : z = -922337203685477580
          · have q5 : ¬ 8 < d := by have := q4.out; omega
            subst hze
            go_wp2_with fail
            rw [← hd]
            go_wp2_with fail
            go_roundw
            case rel => exact ⟨k + 1, _, by omega, hz.out, by go_num, by go_num, by omega, by omega, hbel⟩
            case measure => simp [intOf]; omega
          · have hzb : (z == -922337203685477580) = false := by simpa using hze
            go_wp2_with fail
            rw [← hd]
            go_wp2_with fail
            go_roundw
            case rel => exact ⟨k + 1, _, by omega, hz.out, by go_num, by go_num, by omega, by omega, hbel⟩
            case measure => simp [intOf]; omega
    · have hlti : ¬ (k : Int) < t.size := by omega
      rw [List.drop_eq_nil_of_le (by rw [Array.length_toList]; show t.size ≤ k; omega), digs] at hz
      subst hz
      go_wp2_with fail
      go_ret2
      exact numOr_some rfl hbel

set_option maxRecDepth 100000 in
set_option maxHeartbeats 6400000 in
theorem parse01_bad0 (w : World) : Calls Tryz.prog 91 #[.string ⟨#[]⟩] w (NumOr none 11 w) := by
  go_enter Tryz.func91, Tryz.ntmps91
  go_wp2_with fail
  go_ret2
  exact numOr_none rfl (Below.refl _ _)
set_option maxRecDepth 100000 in
set_option maxHeartbeats 6400000 in
theorem parse01_badN (t : ByteArray) (h0 : 0 < t.size) (hm : t.size ≤ 281474976710656) (h2 : (t[0]'h0).toNat ≠ 45) (h3 : 19 < t.size ∨ (t[0]'h0).toNat = 48 ∧ 1 < t.size) (w : World) :
    Calls Tryz.prog 91 #[.string t] w (NumOr none 11 w) := by
  obtain ⟨c0, hc0⟩ : ∃ c : UInt8, t[0]'h0 = c := ⟨_, rfl⟩
  rw [hc0] at h2 h3
  have f1 : ((c0.toNat : Int) == 45) = false := by simpa using fun h => h2 (by omega)
  have h0i : (0 : Int) < t.size := by omega
  have h0z : ((t.size : Int) == 0) = false := beq_eq_false_iff_ne.2 (by omega)
  by_cases h1 : 19 < t.size
  · have h1i : (19 : Int) < t.size := by omega
    clear h3 h2
    go_enter Tryz.func91, Tryz.ntmps91
    go_wp2_with fail
    go_ret2
    exact numOr_none rfl (Below.refl _ _)
  · have h1i : ¬ (19 : Int) < t.size := by omega
    have h4 : c0.toNat = 48 ∧ 1 < t.size := by omega
    have f2 : ((c0.toNat : Int) == 48) = true := by simpa using by omega
    have h4i : (1 : Int) < t.size := by omega
    clear h3 h2 h4
    go_enter Tryz.func91, Tryz.ntmps91
    go_wp2_with fail
    go_ret2
    exact numOr_none rfl (Below.refl _ _)
set_option maxRecDepth 100000 in
set_option maxHeartbeats 6400000 in
theorem parse01_badM (s t : ByteArray) (h9 : 0 < s.size) (hm : s.size ≤ 281474976710656) (hs : (s[0]'h9).toNat = 45) (ht : s.extract 1 s.size = t) (h3 : t.size = 0 ∨ 19 < t.size ∨ ∃ h0 : 0 < t.size, (t[0]'h0).toNat = 48) (w : World) :
    Calls Tryz.prog 91 #[.string s] w (NumOr none 11 w) := by
  obtain ⟨c1, hc1⟩ : ∃ c : UInt8, s[0]'h9 = c := ⟨_, rfl⟩
  rw [hc1] at hs
  have f1 : ((c1.toNat : Int) == 45) = true := by simpa using by omega
  have h9i : (0 : Int) < s.size := by omega
  have h9j : (1 : Int) ≤ s.size := by omega
  by_cases hz : t.size = 0
  · have h0z : ((t.size : Int) == 0) = true := by rw [hz]; rfl
    clear h3 hz
    go_enter Tryz.func91, Tryz.ntmps91
    go_wp2_with fail
    go_ret2
    exact numOr_none rfl (Below.refl _ _)
  have h0i : (0 : Int) < t.size := by omega
  have h0z : ((t.size : Int) == 0) = false := beq_eq_false_iff_ne.2 (by omega)
  by_cases h1 : 19 < t.size
  · have h1i : (19 : Int) < t.size := by omega
    clear h3 hz
    go_enter Tryz.func91, Tryz.ntmps91
    go_wp2_with fail
    go_ret2
    exact numOr_none rfl (Below.refl _ _)
  have h1i : ¬ (19 : Int) < t.size := by omega
  obtain ⟨h0, h4⟩ : ∃ h0 : 0 < t.size, (t[0]'h0).toNat = 48 := by
    rcases h3 with h | h | h
    · exact absurd h hz
    · exact absurd h h1
    · exact h
  obtain ⟨c0, hc0⟩ : ∃ c : UInt8, t[0]'h0 = c := ⟨_, rfl⟩
  rw [hc0] at h4
  have f2 : ((c0.toNat : Int) == 48) = true := by simpa using by omega
  clear h3 hz h4
  by_cases h5 : 1 < t.size
  · have h5i : (1 : Int) < t.size := by omega
    go_enter Tryz.func91, Tryz.ntmps91
    go_wp2_with fail
    go_ret2
    exact numOr_none rfl (Below.refl _ _)
  · have h5i : ¬ (1 : Int) < t.size := by omega
    go_enter Tryz.func91, Tryz.ntmps91
    go_wp2_with fail
    go_ret2
    exact numOr_none rfl (Below.refl _ _)

theorem head_data (t : ByteArray) (h : 0 < t.size) : t.data.toList.head? = some (t[0]'h) := by
  rw [List.head?_eq_getElem?]; exact Lib.data_getElem? t 0 h
theorem parse01_any (s : ByteArray) (hm : s.size ≤ 281474976710656) (w : World) : Calls Tryz.prog 91 #[.string s] w (NumOr (wP s.data.toList) 11 w) := by
  rw [← refP_wP]
  have hlen : s.data.toList.length = s.size := by rw [Array.length_toList]; rfl
  rcases Nat.eq_zero_or_pos s.size with h | h
  · obtain rfl : s = ⟨#[]⟩ := by
      cases s with
      | mk d => cases d with
        | mk l => cases l with
          | nil => rfl
          | cons c r => simp [ByteArray.size] at h
    exact parse01_bad0 w
  · have hh := head_data s h
    have e45 : (45 : UInt8).toNat = 45 := rfl
    have e48 : (48 : UInt8).toNat = 48 := rfl
    by_cases h45 : (s[0]'h).toNat = 45
    · have h45' : s.data.toList.head? = some 45 := by rw [hh]; exact congrArg some (UInt8.toNat_inj.1 (h45.trans e45.symm))
      unfold refP
      rw [if_pos h45']
      have htl : (s.extract 1 s.size).data.toList = s.data.toList.tail := by
        rw [ByteArray.data_extract, Array.toList_extract, List.extract_eq_take_drop, List.drop_one]
        rw [List.take_of_length_le]
        rw [List.length_tail, hlen]; exact Nat.le_refl _
      have hts : (s.extract 1 s.size).size = s.size - 1 := by rw [ByteArray.size_extract]; omega
      have htl2 : s.data.toList.tail.length = (s.extract 1 s.size).size := by rw [← htl, Array.length_toList]; rfl
      obtain ⟨t, ht⟩ : ∃ t, s.extract 1 s.size = t := ⟨_, rfl⟩
      rw [ht] at htl hts htl2
      rw [← htl] at htl2 ⊢
      unfold refM
      by_cases hc : t.data.toList.length = 0 ∨ 19 < t.data.toList.length ∨ t.data.toList.head? = some 48
      · rw [if_pos hc]
        rw [htl2] at hc
        refine parse01_badM s t h hm h45 ht ?_ w
        rcases hc with hc | hc | hc
        · exact Or.inl hc
        · exact Or.inr (Or.inl hc)
        · by_cases h0 : 0 < t.size
          · rw [head_data t h0] at hc
            simp only [Option.some.injEq] at hc
            exact Or.inr (Or.inr ⟨h0, by rw [hc]; rfl⟩)
          · exact Or.inl (by omega)
      · rw [if_neg hc]
        rw [htl2] at hc
        have h0 : 0 < t.size := by rcases Nat.eq_zero_or_pos t.size with e | e; exact absurd (Or.inl e) hc; exact e
        refine parse01_loopM s t (by omega) h45 ht h0 (Nat.le_of_not_lt fun e => hc (Or.inr (Or.inl e))) (fun e => hc (Or.inr (Or.inr ?_))) _ rfl w
        rw [head_data t h0]; exact congrArg some (UInt8.toNat_inj.1 (e.trans e48.symm))
    · have h45' : ¬ s.data.toList.head? = some 45 := by rw [hh]; intro e; simp only [Option.some.injEq] at e; rw [e] at h45; exact h45 rfl
      unfold refP
      rw [if_neg h45']
      unfold refN
      by_cases hc : s.data.toList.length = 0 ∨ 19 < s.data.toList.length ∨ s.data.toList.head? = some 48 ∧ 1 < s.data.toList.length
      · rw [if_pos hc]
        rw [hlen, hh] at hc
        refine parse01_badN s h hm h45 ?_ w
        rcases hc with hc | hc | ⟨hc, hc2⟩
        · omega
        · exact Or.inl hc
        · simp only [Option.some.injEq] at hc
          exact Or.inr ⟨by rw [hc]; rfl, hc2⟩
      · rw [if_neg hc]
        rw [hlen, hh] at hc
        refine parse01_loopN s h (Nat.le_of_not_lt fun e => hc (Or.inr (Or.inl e))) h45 (fun e => ?_) _ rfl w
        rcases Nat.lt_or_ge 1 s.size with h1 | h1
        · exact absurd (Or.inr (Or.inr ⟨congrArg some (UInt8.toNat_inj.1 (e.trans e48.symm)), h1⟩)) hc
        · omega
end Go.Proofs.YtagkgfniihiinaaGreatDoor
