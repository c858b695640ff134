/- nearhandref01.Parse at the text of a number that fits. -/
import Derived.Test.YtdhojdkeidilfaaDoorWds06
namespace Go.Proofs.YtdhojdkeidilfaaDoor
open Go.RowKit

/-- The number of digits, below 0. -/
def digs : List UInt8 → Int → Option Int
  | [], n => some n
  | c :: l, n => if (c.toNat : Int) - 48 < 0 ∨ 9 < (c.toNat : Int) - 48 then none else if n < -922337203685477580 ∨ n = -922337203685477580 ∧ 8 < (c.toNat : Int) - 48 then none else digs l (10 * n - ((c.toNat : Int) - 48))
set_option maxRecDepth 100000 in
set_option maxHeartbeats 3200000 in
theorem parse01_plain (t : ByteArray) (h0 : 0 < t.size) (h1 : t.size ≤ 19) (h2 : (t[0]'h0).toNat ≠ 45) (h3 : (t[0]'h0).toNat = 48 → t.size = 1) (N : Int) (hd : digs t.data.toList 0 = some N) (hN : N ≠ -9223372036854775808) (w : World) :
    Calls Tryd.prog 25 #[.string t] w fun e w' => e = .returned (.tuple #[.int .i64 (-N), .int .i64 0]) ∧ Below w.heap.size w w' := by
  obtain ⟨c0, hc0⟩ : ∃ c : UInt8, t[0]'h0 = c := ⟨_, rfl⟩
  rw [hc0] at h2 h3
  have f1 : ((c0.toNat : Int) == 45) = false := by simpa using fun h => h2 (by omega)
  have h0i : (0 : Int) < t.size := by omega
  have h0z : ((t.size : Int) == 0) = false := beq_eq_false_iff_ne.2 (by omega)
  have h1i : ¬ (19 : Int) < t.size := by omega
  have hNb : (N == -9223372036854775808) = false := by simpa using hN
  replace hd := Lib.hid hd
  by_cases hz : c0.toNat = 48
  · have f2 : ((c0.toNat : Int) == 48) = true := by simpa using by omega
    have h3i : ¬ (1 : Int) < t.size := by have := h3 hz; omega
    clear h2 h3 hN hz
    go_enter Tryd.func25, Tryd.ntmps25
    go_wp2_with fail
    go_loopw [6, 7] (fun n i wr => ∃ (k : Nat) (z : Int), k ≤ t.size ∧ digs (t.data.toList.drop k) z = some N ∧ n = .int .i64 z ∧ i = .int .i64 k ∧ -9223372036854775808 ≤ z ∧ z ≤ 0 ∧ Below w.heap.size w wr) (fun _ i _ => t.size - (intOf i).toNat)
    case atStart => exact ⟨0, 0, Nat.zero_le _, hd.out, rfl, rfl, by omega, by omega, Below.refl _ _⟩
    case round =>
      obtain ⟨k, z, hk, hz, rfl, rfl, z1, z2, hbel⟩ := hrel
      clear hd
      by_cases hlt : k < t.size
      · obtain ⟨c, hc⟩ : ∃ c : UInt8, t[k]'hlt = c := ⟨_, rfl⟩
        have hcl : t.data.toList[k]? = some c := by rw [Lib.data_getElem? t k hlt, hc]
        obtain ⟨hk2, hcc⟩ := List.getElem?_eq_some_iff.1 hcl
        rw [List.drop_eq_getElem_cons hk2, hcc, digs] at hz
        have hlti : (k : Int) < t.size := by omega
        by_cases p1 : (c.toNat : Int) - 48 < 0 ∨ 9 < (c.toNat : Int) - 48
        · rw [if_pos p1] at hz; cases hz
        · rw [if_neg p1] at hz
          by_cases p2 : z < -922337203685477580 ∨ z = -922337203685477580 ∧ 8 < (c.toNat : Int) - 48
          · rw [if_pos p2] at hz; cases hz
          · rw [if_neg p2] at hz
            obtain ⟨d, hd⟩ : ∃ d, d = (c.toNat : Int) - 48 := ⟨_, rfl⟩
            have hc256 : c.toNat < 256 := c.toNat_lt
            rw [← hd] at hz p1 p2
            have q1 : ¬ d < 0 := by omega
            have q2 : ¬ 9 < d := by omega
            have q3 : ¬ z < -922337203685477580 := by omega
            have q4 : ¬ (z = -922337203685477580 ∧ 8 < d) := by omega
            replace hz := Lib.hid hz
            replace q4 := Lib.hid q4
            have r1 : -9223372036854775808 ≤ 10 * z - d := by have := q4.out; omega
            have r2 : 10 * z - d ≤ 0 := by omega
            clear p1 p2 hcc hk2 hcl
            by_cases hze : z = -922337203685477580
            · have q5 : ¬ 8 < d := by have := q4.out; omega
              subst hze
              go_wp2_with fail
              rw [← hd]
              go_wp2_with fail
              go_roundw
              case rel => exact ⟨k + 1, _, by omega, hz.out, by go_num, by go_num, by omega, by omega, hbel⟩
              case measure => simp [intOf]; omega
            · have hzb : (z == -922337203685477580) = false := by simpa using hze
              go_wp2_with fail
              rw [← hd]
              go_wp2_with fail
              go_roundw
              case rel => exact ⟨k + 1, _, by omega, hz.out, by go_num, by go_num, by omega, by omega, hbel⟩
              case measure => simp [intOf]; omega
      · have hlti : ¬ (k : Int) < t.size := by omega
        rw [List.drop_eq_nil_of_le (by rw [Array.length_toList]; show t.size ≤ k; omega), digs] at hz
        obtain rfl : z = N := by simpa using hz
        clear hz
        have z3 : -z ≤ 9223372036854775807 := by have := hNb; simp at this; omega
        have z4 : -9223372036854775808 ≤ -z := by omega
        go_wp2_with fail
        go_ret2
        exact ⟨rfl, hbel⟩
  · have f2 : ((c0.toNat : Int) == 48) = false := by simpa using fun h => hz (by omega)
    clear h2 h3 hN hz
    go_enter Tryd.func25, Tryd.ntmps25
    go_wp2_with fail
    go_loopw [6, 7] (fun n i wr => ∃ (k : Nat) (z : Int), k ≤ t.size ∧ digs (t.data.toList.drop k) z = some N ∧ n = .int .i64 z ∧ i = .int .i64 k ∧ -9223372036854775808 ≤ z ∧ z ≤ 0 ∧ Below w.heap.size w wr) (fun _ i _ => t.size - (intOf i).toNat)
    case atStart => exact ⟨0, 0, Nat.zero_le _, hd.out, rfl, rfl, by omega, by omega, Below.refl _ _⟩
    case round =>
      obtain ⟨k, z, hk, hz, rfl, rfl, z1, z2, hbel⟩ := hrel
      clear hd
      by_cases hlt : k < t.size
      · obtain ⟨c, hc⟩ : ∃ c : UInt8, t[k]'hlt = c := ⟨_, rfl⟩
        have hcl : t.data.toList[k]? = some c := by rw [Lib.data_getElem? t k hlt, hc]
        obtain ⟨hk2, hcc⟩ := List.getElem?_eq_some_iff.1 hcl
        rw [List.drop_eq_getElem_cons hk2, hcc, digs] at hz
        have hlti : (k : Int) < t.size := by omega
        by_cases p1 : (c.toNat : Int) - 48 < 0 ∨ 9 < (c.toNat : Int) - 48
        · rw [if_pos p1] at hz; cases hz
        · rw [if_neg p1] at hz
          by_cases p2 : z < -922337203685477580 ∨ z = -922337203685477580 ∧ 8 < (c.toNat : Int) - 48
          · rw [if_pos p2] at hz; cases hz
          · rw [if_neg p2] at hz
            obtain ⟨d, hd⟩ : ∃ d, d = (c.toNat : Int) - 48 := ⟨_, rfl⟩
            have hc256 : c.toNat < 256 := c.toNat_lt
            rw [← hd] at hz p1 p2
            have q1 : ¬ d < 0 := by omega
            have q2 : ¬ 9 < d := by omega
            have q3 : ¬ z < -922337203685477580 := by omega
            have q4 : ¬ (z = -922337203685477580 ∧ 8 < d) := by omega
            replace hz := Lib.hid hz
            replace q4 := Lib.hid q4
            have r1 : -9223372036854775808 ≤ 10 * z - d := by have := q4.out; omega
            have r2 : 10 * z - d ≤ 0 := by omega
            clear p1 p2 hcc hk2 hcl
            by_cases hze : z = -922337203685477580
            · have q5 : ¬ 8 < d := by have := q4.out; omega
              subst hze
              go_wp2_with fail
              rw [← hd]
              go_wp2_with fail
              go_roundw
              case rel => exact ⟨k + 1, _, by omega, hz.out, by go_num, by go_num, by omega, by omega, hbel⟩
              case measure => simp [intOf]; omega
            · have hzb : (z == -922337203685477580) = false := by simpa using hze
              go_wp2_with fail
              rw [← hd]
              go_wp2_with fail
              go_roundw
              case rel => exact ⟨k + 1, _, by omega, hz.out, by go_num, by go_num, by omega, by omega, hbel⟩
              case measure => simp [intOf]; omega
      · have hlti : ¬ (k : Int) < t.size := by omega
        rw [List.drop_eq_nil_of_le (by rw [Array.length_toList]; show t.size ≤ k; omega), digs] at hz
        obtain rfl : z = N := by simpa using hz
        clear hz
        have z3 : -z ≤ 9223372036854775807 := by have := hNb; simp at this; omega
        have z4 : -9223372036854775808 ≤ -z := by omega
        go_wp2_with fail
        go_ret2
        exact ⟨rfl, hbel⟩
set_option maxRecDepth 100000 in
set_option maxHeartbeats 3200000 in
theorem parse01_minus (s t : ByteArray) (h9 : 1 < s.size) (hs : (s[0]'(by omega)).toNat = 45) (ht : s.extract 1 s.size = t) (h0 : 0 < t.size) (h1 : t.size ≤ 19) (h3 : (t[0]'h0).toNat ≠ 48) (N : Int) (hd : digs t.data.toList 0 = some N) (w : World) :
    Calls Tryd.prog 25 #[.string s] w fun e w' => e = .returned (.tuple #[.int .i64 N, .int .i64 0]) ∧ Below w.heap.size w w' := by
  obtain ⟨c0, hc0⟩ : ∃ c : UInt8, t[0]'h0 = c := ⟨_, rfl⟩
  obtain ⟨c1, hc1⟩ : ∃ c : UInt8, s[0]'(by omega) = c := ⟨_, rfl⟩
  rw [hc0] at h3
  rw [hc1] at hs
  have f1 : ((c1.toNat : Int) == 45) = true := by simpa using by omega
  have h9i : (0 : Int) < s.size := by omega
  have h9j : (1 : Int) ≤ s.size := by omega
  have h0i : (0 : Int) < t.size := by omega
  have h0z : ((t.size : Int) == 0) = false := beq_eq_false_iff_ne.2 (by omega)
  have h1i : ¬ (19 : Int) < t.size := by omega
  have f2 : ((c0.toNat : Int) == 48) = false := by simpa using fun h => h3 (by omega)
  replace hd := Lib.hid hd
  clear h3
  go_enter Tryd.func25, Tryd.ntmps25
  go_wp2_with fail
  go_loopw [6, 7] (fun n i wr => ∃ (k : Nat) (z : Int), k ≤ t.size ∧ digs (t.data.toList.drop k) z = some N ∧ n = .int .i64 z ∧ i = .int .i64 k ∧ -9223372036854775808 ≤ z ∧ z ≤ 0 ∧ Below w.heap.size w wr) (fun _ i _ => t.size - (intOf i).toNat)
  case atStart => exact ⟨0, 0, Nat.zero_le _, hd.out, rfl, rfl, by omega, by omega, Below.refl _ _⟩
  case round =>
    obtain ⟨k, z, hk, hz, rfl, rfl, z1, z2, hbel⟩ := hrel
    clear hd
    by_cases hlt : k < t.size
    · obtain ⟨c, hc⟩ : ∃ c : UInt8, t[k]'hlt = c := ⟨_, rfl⟩
      have hcl : t.data.toList[k]? = some c := by rw [Lib.data_getElem? t k hlt, hc]
      obtain ⟨hk2, hcc⟩ := List.getElem?_eq_some_iff.1 hcl
      rw [List.drop_eq_getElem_cons hk2, hcc, digs] at hz
      have hlti : (k : Int) < t.size := by omega
      by_cases p1 : (c.toNat : Int) - 48 < 0 ∨ 9 < (c.toNat : Int) - 48
      · rw [if_pos p1] at hz; cases hz
      · rw [if_neg p1] at hz
        by_cases p2 : z < -922337203685477580 ∨ z = -922337203685477580 ∧ 8 < (c.toNat : Int) - 48
        · rw [if_pos p2] at hz; cases hz
        · rw [if_neg p2] at hz
          obtain ⟨d, hd⟩ : ∃ d, d = (c.toNat : Int) - 48 := ⟨_, rfl⟩
          have hc256 : c.toNat < 256 := c.toNat_lt
          rw [← hd] at hz p1 p2
          have q1 : ¬ d < 0 := by omega
          have q2 : ¬ 9 < d := by omega
          have q3 : ¬ z < -922337203685477580 := by omega
          have q4 : ¬ (z = -922337203685477580 ∧ 8 < d) := by omega
          replace hz := Lib.hid hz
          replace q4 := Lib.hid q4
          have r1 : -9223372036854775808 ≤ 10 * z - d := by have := q4.out; omega
          have r2 : 10 * z - d ≤ 0 := by omega
          clear p1 p2 hcc hk2 hcl
          by_cases hze : z = -922337203685477580
          · have q5 : ¬ 8 < d := by have := q4.out; omega
            subst hze
            go_wp2_with fail
            rw [← hd]
            go_wp2_with fail
            go_roundw
            case rel => exact ⟨k + 1, _, by omega, hz.out, by go_num, by go_num, by omega, by omega, hbel⟩
            case measure => simp [intOf]; omega
          · have hzb : (z == -922337203685477580) = false := by simpa using hze
            go_wp2_with fail
            rw [← hd]
            go_wp2_with fail
            go_roundw
            case rel => exact ⟨k + 1, _, by omega, hz.out, by go_num, by go_num, by omega, by omega, hbel⟩
            case measure => simp [intOf]; omega
    · have hlti : ¬ (k : Int) < t.size := by omega
      rw [List.drop_eq_nil_of_le (by rw [Array.length_toList]; show t.size ≤ k; omega), digs] at hz
      obtain rfl : z = N := by simpa using hz
      clear hz
      go_wp2_with fail
      go_ret2
      exact ⟨rfl, hbel⟩
end Go.Proofs.YtdhojdkeidilfaaDoor
