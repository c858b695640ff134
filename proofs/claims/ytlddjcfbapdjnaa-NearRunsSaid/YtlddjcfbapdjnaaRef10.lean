/- The document's answer for layer 10. -/
import Derived.Test.YtlddjcfbapdjnaaRecentC
import Derived.Test.YtlddjcfbapdjnaaStrs
namespace Go.Proofs.Ytlddjcfbapdjnaa
open Go.RowKit

theorem filter_lt (xs : List ByteArray) (key : ByteArray) : (xs.filter (fun x => x ≠ key)).length < xs.length ↔ key ∈ xs := by simp
set_option maxRecDepth 100000 in
set_option maxHeartbeats 1600000 in
theorem drop10_any {w : World} {a : Option Addr} {n ca : Nat} {xs : List ByteArray} (hx : Reads w 1 (.slice a n ca) n (xs.map Value.string)) (hn : n ≤ 1000000) (key : ByteArray) :
    Calls Try.prog 16 #[.slice a n ca, .string key] w fun e w' => ∃ v, e = .returned (.tuple #[v, .bool (decide (key ∈ xs))]) ∧
      w'.ownsRow w.heap.size 9 1 v (xs.filter (fun x => x ≠ key)).length ((xs.filter (fun x => x ≠ key)).map Value.string) ∧ Below w.heap.size w w' := by
  have lx := hx.len.2
  simp at lx
  have hlf := fun k => List.length_filter_le (fun x : ByteArray => decide (x ≠ key)) (xs.take k)
  have hlk : ∀ k, (xs.take k).length ≤ xs.length := fun k => by simp; omega
  replace lx := Lib.hid lx
  replace hlf := Lib.hid hlf
  replace hlk := Lib.hid hlk
  go_enter Try.func16, Try.ntmps16
  go_wp2
  go_loopw [6, 12] (fun v i wr => ∃ k : Nat, k ≤ n ∧ i = .int .i64 k ∧ wr.ownsRow w.heap.size 9 1 v ((xs.take k).filter (fun x => x ≠ key)).length (((xs.take k).filter (fun x => x ≠ key)).map Value.string) ∧ Below w.heap.size w wr) (fun _ i _ => n - (intOf i).toNat)
  case atStart => exact ⟨0, Nat.zero_le _, rfl, owns_empty w _ _, (Below.refl _ _).alloc (Nat.le_refl _) _⟩
  case round =>
    obtain ⟨k, hk, rfl, hown, hbel⟩ := hrel
    by_cases hlt : k < n
    · have hkx : k < xs.length := by rw [lx.out]; exact hlt
      obtain ⟨b1, o1, rfl, hc1⟩ := hx.at (j := k) (by simp; exact hkx)
      have d1 := hc1 k _ (map_str_get hkx)
      have d2 : wr.cell? ⟨b1, o1 + k, none⟩ = some (.string xs[k]) := by rw [hbel.cell (World.block_lt_of_cell? _ _ d1)]; exact d1
      have e1 := filter_snoc (fun x : ByteArray => decide (x ≠ key)) xs k hkx
      obtain ⟨x, hxe⟩ : ∃ x, x = xs[k] := ⟨_, rfl⟩
      rw [← hxe] at d2 e1
      have hbnd : ((xs.take k).filter (fun x => x ≠ key)).length < 1000000000 := by
        have h1 := hlf.out k; have h2 := hlk.out k; have h3 := lx.out; omega
      replace e1 := Lib.hid e1
      replace hxe := Lib.hid hxe
      clear hc1 hx d1
      by_cases hxy : x = key
      · have hs := str_eq hxy
        replace hxy := Lib.hid hxy
        go_wp2
        go_roundw
        case rel => exact ⟨k + 1, by omega, by go_num, by rw [e1.out, if_neg (by simp [hxy.out]), List.append_nil]; exact hown, hbel⟩
        case measure => simp [intOf]; omega
      · have hs := str_ne hxy
        replace hxy := Lib.hid hxy
        go_wp2_with (at_builtin; refine append_elem rfl rfl eStr rfl hown rfl rfl rfl hbnd hbel.size ?_)
        intro v' w1 hown' hfr
        have hbel' := Below.of_append hbel hfr (fun k hk => (owns_block hown k hk).1) hbel.size
        clear hown hbel hfr d2
        go_wp2
        go_roundw
        case rel => exact ⟨k + 1, by omega, by go_num, by rw [e1.out, if_pos (by simp [hxy.out])]; simpa using hown', hbel'⟩
        case measure => simp [intOf]; omega
    · have hkn : k = n := by omega
      subst hkn
      rw [List.take_of_length_le (by rw [lx.out]; exact Nat.le_refl _)] at hown
      obtain ⟨a', c', rfl⟩ := (Reads.of_owns hown).shape
      have hl1 := List.length_filter_le (fun x : ByteArray => decide (x ≠ key)) xs
      clear hx
      go_wp2
      go_ret2
      exact ⟨_, by simp [← filter_lt xs key, lx.out], hown, hbel⟩

theorem has10_any {w : World} {a : Option Addr} {n ca : Nat} {xs : List ByteArray} (hx : Reads w 1 (.slice a n ca) n (xs.map Value.string)) (hn : n ≤ 1000000) (key : ByteArray) :
    Calls Try.prog 21 #[.slice a n ca, .string key] w fun e w' => e = .returned (.bool (decide (key ∈ xs))) ∧ w' = w := by
  have lx := hx.len.2
  simp at lx
  replace lx := Lib.hid lx
  go_enter Try.func21, Try.ntmps21
  go_wp2
  go_loop [9] (fun i => ∃ k : Nat, k ≤ n ∧ i = .int .i64 k ∧ key ∉ xs.take k) (fun i => n - (intOf i).toNat)
  case atStart => exact ⟨0, Nat.zero_le _, rfl, by simp⟩
  case round =>
    obtain ⟨k, hk, rfl, hnot⟩ := hrel
    replace hnot := Lib.hid hnot
    by_cases hlt : k < n
    · have hkx : k < xs.length := by rw [lx.out]; exact hlt
      obtain ⟨b1, o1, rfl, hc1⟩ := hx.at (j := k) (by simp; exact hkx)
      have d1 := hc1 k _ (map_str_get hkx)
      have e1 : xs.take (k + 1) = xs.take k ++ [xs[k]] := List.take_succ_eq_append_getElem hkx
      have hm : xs[k] ∈ xs := List.getElem_mem hkx
      obtain ⟨x, hxe⟩ : ∃ x, x = xs[k] := ⟨_, rfl⟩
      rw [← hxe] at d1 e1 hm
      replace e1 := Lib.hid e1
      replace hm := Lib.hid hm
      replace hxe := Lib.hid hxe
      clear hc1 hx
      by_cases hxy : x = key
      · have hs := str_eq hxy
        replace hxy := Lib.hid hxy
        go_wp2
        go_ret
        exact ⟨by rw [← hxy.out]; simp [hm.out], rfl⟩
      · have hs := str_ne hxy
        replace hxy := Lib.hid hxy
        go_wp2
        go_round
        case rel => exact ⟨k + 1, by omega, by go_num, by rw [e1.out]; simp; exact ⟨hnot.out, fun e => hxy.out e.symm⟩⟩
        case measure => simp [intOf]; omega
    · have hkn : k = n := by omega
      subst hkn
      clear hx
      go_wp2
      go_ret
      exact ⟨by have := hnot.out; rw [List.take_of_length_le (by rw [lx.out]; exact Nat.le_refl _)] at this; simp [this], rfl⟩

/-- The first key but one, by the document. -/
def oldest10 (but : ByteArray) (l : List ByteArray) : ByteArray × Bool := match l.find? (fun k => k ≠ but) with
  | some k => (k, true)
  | none => (ByteArray.empty, false)

theorem oldest10_ref {w : World} {a : Option Addr} {n ca : Nat} {xs : List ByteArray} (hx : Reads w 1 (.slice a n ca) n (xs.map Value.string)) (hn : n ≤ 1000000) (but : ByteArray) :
    Calls Try.prog 18 #[.slice a n ca, .string but] w fun e w' => e = .returned (.tuple #[.string (oldest10 but xs).1, .bool (oldest10 but xs).2]) ∧ w' = w := by
  have lx := hx.len.2
  simp at lx
  replace lx := Lib.hid lx
  go_enter Try.func18, Try.ntmps18
  go_wp2
  go_loop [10] (fun i => ∃ k : Nat, k ≤ n ∧ i = .int .i64 k ∧ oldest10 but xs = oldest10 but (xs.drop k)) (fun i => n - (intOf i).toNat)
  case atStart => exact ⟨0, Nat.zero_le _, rfl, by simp⟩
  case round =>
    obtain ⟨k, hk, rfl, hold⟩ := hrel
    replace hold := Lib.hid hold
    by_cases hlt : k < n
    · have hkx : k < xs.length := by rw [lx.out]; exact hlt
      obtain ⟨b1, o1, rfl, hc1⟩ := hx.at (j := k) (by simp; exact hkx)
      have d1 := hc1 k _ (map_str_get hkx)
      have e1 : xs.drop k = xs[k] :: xs.drop (k + 1) := List.drop_eq_getElem_cons hkx
      obtain ⟨x, hxe⟩ : ∃ x, x = xs[k] := ⟨_, rfl⟩
      rw [← hxe] at d1 e1
      replace e1 := Lib.hid e1
      replace hxe := Lib.hid hxe
      clear hc1 hx
      by_cases hxy : x = but
      · have hs := str_eq hxy
        replace hxy := Lib.hid hxy
        go_wp2
        go_round
        case rel => exact ⟨k + 1, by omega, by go_num, by rw [hold.out, e1.out]; simp [oldest10, hxy.out]⟩
        case measure => simp [intOf]; omega
      · have hs := str_ne hxy
        replace hxy := Lib.hid hxy
        go_wp2
        go_ret2
        exact ⟨by rw [hold.out, e1.out]; simp [oldest10, hxy.out], rfl⟩
    · have hkn : k = n := by omega
      subst hkn
      clear hx
      go_wp2
      go_ret2
      exact ⟨by rw [hold.out, List.drop_of_length_le (by rw [lx.out]; exact Nat.le_refl _)]; rfl, rfl⟩

theorem oldest_eq (but : ByteArray) : ∀ {ks : List ByteArray}, ks.Nodup → oldest but ks = oldest10 but ks
  | [], _ => rfl
  | k :: t, h => by
    by_cases hk : k = but
    · subst hk
      rw [List.nodup_cons] at h
      cases t with
      | nil => simp [oldest, oldest10]
      | cons k2 t =>
        have : k2 ≠ k := fun e => h.1 (by simp [e])
        simp [oldest, oldest10, this]
    · simp [oldest, oldest10, hk]

theorem touch10_any {w : World} {a : Option Addr} {n ca : Nat} {xs : List ByteArray} (hx : Reads w 1 (.slice a n ca) n (xs.map Value.string)) (hn : n ≤ 1000000) (key : ByteArray) :
    Calls Try.prog 13 #[.slice a n ca, .string key] w fun e w' => ∃ v, e = .returned (.tuple #[v, .bool (!(decide (key ∈ xs)))]) ∧
      w'.ownsRow w.heap.size 9 1 v ((xs.filter (fun x => x ≠ key)).length + 1) ((touch xs key).map Value.string) ∧ Below w.heap.size w w' := by
  have lx := hx.len.2
  have hlf := List.length_filter_le (fun x : ByteArray => decide (x ≠ key)) xs
  simp only [List.length_map, Nat.mul_one] at lx
  go_enter Try.func13, Try.ntmps13
  go_wp2_with fail
  refine (drop10_any hx hn key).mono ?_
  rintro e w1 ⟨v, rfl, hown, hbel⟩
  have hb : (xs.filter (fun x => x ≠ key)).length < 1000000000 := by omega
  clear hx lx hlf
  go_wp2_with (at_builtin; refine append_elem rfl rfl eStr rfl hown rfl rfl rfl hb hbel.size ?_)
  intro v' w2 hown' hfr
  have hbel' := Below.of_append hbel hfr (fun k hk => (owns_block hown k hk).1) hbel.size
  clear hown hbel hfr
  go_wp2
  go_ret2
  exact ⟨_, rfl, by simpa [touch] using hown', hbel'⟩
end Go.Proofs.Ytlddjcfbapdjnaa
