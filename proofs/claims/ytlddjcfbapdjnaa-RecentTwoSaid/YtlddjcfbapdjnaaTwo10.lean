/- RecentTwo returns true at every input, and leaves the input as it was: the statement RecentTwoSaid, with no condition of its own. -/
import Derived.Test.YtlddjcfbapdjnaaRows
import Derived.Test.YtlddjcfbapdjnaaLaw10
import Derived.Test.YtlddjcfbapdjnaaOpen
namespace Go.Proofs.Ytlddjcfbapdjnaa
open Go.RowKit

theorem oldest10_some {but : ByteArray} {ks : List ByteArray} {a : ByteArray} (h : ks.find? (fun k => k ≠ but) = some a) :
    oldest10 but ks = (a, true) ∧ a ≠ but ∧ a ∈ ks ∧ ∃ t, ks.filter (fun x => x ≠ but) = a :: t := by
  refine ⟨by simp only [oldest10, h], by simpa using List.find?_some h, List.mem_of_find?_eq_some h, ?_⟩
  rw [← List.head?_filter] at h
  cases hf : ks.filter (fun x => decide (x ≠ but)) with
  | nil => rw [hf] at h; simp at h
  | cons x t => rw [hf] at h; simp at h; subst h; exact ⟨t, rfl⟩
theorem oldest10_none {but : ByteArray} {ks : List ByteArray} (h : ks.find? (fun k => k ≠ but) = none) :
    oldest10 but ks = (ByteArray.empty, false) ∧ (∀ k ∈ ks, k = but) ∧ ks.filter (fun x => x ≠ but) = [] := by
  have h1 : ∀ k ∈ ks, k = but := by simpa using h
  refine ⟨by simp only [oldest10, h], h1, ?_⟩
  rw [List.filter_eq_nil_iff]; intro k hk; simp [h1 k hk]

set_option maxRecDepth 100000 in
set_option maxHeartbeats 4000000 in
theorem two10_any {w : World} {a : Option Addr} {n ca : Nat} {keys : List ByteArray} (hx : Reads w 1 (.slice a n ca) n (keys.map Value.string)) (but : ByteArray) :
    Calls Try.prog 5 #[.slice a n ca, .string but] w fun e w' => e = .returned (.bool true) ∧ Below w.heap.size w w' := by
  have lx := hx.len.2
  simp only [List.length_map, Nat.mul_one] at lx
  by_cases hbig : 60 < n
  · clear lx hx
    go_enter Try.func5, Try.ntmps5
    go_wp2_with fail
    refine (alive10_any w).mono ?_
    rintro e w1 ⟨rfl, hb1⟩
    go_wp2
    go_ret
    exact ⟨rfl, hb1⟩
  · go_enter Try.func5, Try.ntmps5
    go_wp2_with fail
    refine (alive10_any w).mono ?_
    rintro e w1 ⟨rfl, hb1⟩
    go_wp2_with fail
    refine (new_any w1).mono ?_
    rintro e w2 ⟨r, m, rfl, hR, hb2, hr, hm⟩
    have hS : St w.heap.size w w2 r m [] [] := ⟨hR, fun b hb => by have := hb1.size; simp at hb; rcases hb with rfl | rfl <;> omega, hb1.trans (hb2.mono hb1.size), Nat.le_trans hb1.size hb2.size⟩
    clear hR hb1 hb2 hr hm
    go_wp2_with fail
    go_loopw [19] (fun i wr => ∃ (k : Nat) (ks : List ByteArray) (ns : List Nat), k ≤ n ∧ i = .int .i64 k ∧ ks.length ≤ k ∧ St w.heap.size w wr r m ks ns) (fun i _ => n - (intOf i).toNat)
    case atStart => exact ⟨0, [], [], Nat.zero_le _, rfl, Nat.le_refl _, hS⟩
    case round =>
      obtain ⟨k, ks, ns, hk, rfl, hkl, hSt⟩ := hrel
      clear hS
      by_cases hlt : k < n
      · have hkx : k < keys.length := by omega
        obtain ⟨b1, o1, rfl, hc1⟩ := hx.at (j := k) (by simp; exact hkx)
        have d0 := hc1 _ _ (map_str_get hkx)
        have d0 : wr.cell? ⟨b1, o1 + k, none⟩ = some (.string keys[k]) := (hSt.bel.cell (by exact World.block_lt_of_cell? _ _ d0)).trans d0
        obtain ⟨key, hkey⟩ : ∃ x, x = keys[k] := ⟨_, rfl⟩
        rw [← hkey] at d0
        clear hkey hc1 hx lx
        go_wp2_with fail
        refine (touch_any hSt.rc key).mono ?_
        rintro e w4 ⟨rfl, ns4, hR, hf, hn⟩
        have hS4 := hSt.step hR hf hn
        clear hSt hR hf hn d0
        go_wp2
        go_roundw
        case rel => exact ⟨k + 1, touch ks key, ns4, by omega, by go_num, by have := touch_len ks key; omega, hS4⟩
        case measure => simp [intOf]; omega
      · clear hx lx
        have hnd := Lib.hid hSt.rc.ksnd
        go_wp2_with fail
        refine (oldest_b hSt.rc but).mono ?_
        rintro e w3 ⟨rfl, hb3⟩
        have hS := hSt.below hb3
        clear hSt hb3
        cases hfind : ks.find? (fun k => k ≠ but) with
        | some old =>
          obtain ⟨e1, hne, hmem, t, ht⟩ := oldest10_some hfind
          rw [e1]
          have hsne := str_ne hne
          replace ht := Lib.hid ht
          clear hfind e1
          go_wp2_with fail
          refine (len_any hS.rc).mono ?_
          rintro e w4 ⟨rfl, rfl⟩
          by_cases hl1 : 1 < ks.length
          · replace hne := Lib.hid hne
            replace hmem := Lib.hid hmem
            go_wp2_with fail
            refine (drop_any hS.rc but).mono ?_
            rintro e w5 ⟨rfl, ns5, hR, hf, hn⟩
            have hS5 := hS.step hR hf hn
            clear hR hf hn hS
            have hfl := List.length_filter_le (fun x : ByteArray => decide (x ≠ but)) ks
            have hfl2 : (ks.filter (fun x => x ≠ but)).length ≤ 1000000 := by omega
            go_wp2_with fail
            refine (all_any hS5.rc hfl2).mono ?_
            rintro e w6 ⟨v6, rfl, hown, hb6⟩
            have hS6 := hS5.below hb6
            clear hS5 hb6 hfl hfl2
            rw [ht.out] at hown
            obtain ⟨a6, c6, rfl⟩ := (Reads.of_owns hown).shape
            obtain ⟨b6, o6, rfl, hc6⟩ := (Reads.of_owns hown).at (j := 0) (by simp)
            have d6 : w6.cell? ⟨b6, o6, none⟩ = some (.string old) := hc6 0 _ rfl
            have hxx := str_eq (rfl : old = old)
            have i1 : ((t.length + 1 : Nat) : Int) = (t.length : Int) + 1 := by omega
            have i2 : (0 : Int) < (t.length : Int) + 1 := by omega
            have i3 : (((t.length : Int) + 1 == 0) = false) := by simp; omega
            clear hown hc6
            go_wp2
            go_ret
            exact ⟨rfl, hS6.bel⟩
          · have hk1 : ks = [old] := by
              cases ks with
              | nil => simp at hmem
              | cons x l =>
                have : l = [] := by cases l with
                  | nil => rfl
                  | cons => simp at hl1
                subst this; simp at hmem; rw [hmem]
            subst hk1
            clear hl1 hmem
            have hnb : ¬ but ∈ [old] := by simp; exact fun e => hne e.symm
            replace hne := Lib.hid hne
            go_wp2_with fail
            refine (len_any hS.rc).mono ?_
            rintro e w4 ⟨rfl, rfl⟩
            go_wp2_with fail
            refine (has_any hS.rc but).mono ?_
            rintro e w4 ⟨rfl, rfl⟩
            rw [decide_eq_false hnb]
            go_wp2_with fail
            obtain ⟨ks, hks⟩ : ∃ ks, ks = [old] := ⟨_, rfl⟩
            rw [← hks] at hS ht
            have hkl : ks.length ≤ 60 := by rw [hks]; simp
            clear hks
            refine (drop_any hS.rc but).mono ?_
            rintro e w5 ⟨rfl, ns5, hR, hf, hn⟩
            have hS5 := hS.step hR hf hn
            clear hR hf hn hS
            have hfl := List.length_filter_le (fun x : ByteArray => decide (x ≠ but)) ks
            have hfl2 : (ks.filter (fun x => x ≠ but)).length ≤ 1000000 := by omega
            go_wp2_with fail
            refine (all_any hS5.rc hfl2).mono ?_
            rintro e w6 ⟨v6, rfl, hown, hb6⟩
            have hS6 := hS5.below hb6
            clear hS5 hb6 hfl hfl2
            rw [ht.out] at hown
            obtain ⟨a6, c6, rfl⟩ := (Reads.of_owns hown).shape
            obtain ⟨b6, o6, rfl, hc6⟩ := (Reads.of_owns hown).at (j := 0) (by simp)
            have d6 : w6.cell? ⟨b6, o6, none⟩ = some (.string old) := hc6 0 _ rfl
            have hxx := str_eq (rfl : old = old)
            have i2 : (0 : Int) < (t.length : Int) + 1 := by omega
            have i3 : (((t.length : Int) + 1 == 0) = false) := by simp; omega
            clear hown hc6
            go_wp2
            go_ret
            exact ⟨rfl, hS6.bel⟩
        | none =>
          obtain ⟨e1, hall, hfe⟩ := oldest10_none hfind
          rw [e1]
          clear hfind e1
          replace hfe := Lib.hid hfe
          go_wp2_with fail
          refine (len_any hS.rc).mono ?_
          rintro e w4 ⟨rfl, rfl⟩
          cases hks : ks with
          | nil =>
            rw [hks] at hS hfe
            subst hks
            replace hall := Lib.hid hall
            go_wp2_with fail
            refine (len_any hS.rc).mono ?_
            rintro e w4 ⟨rfl, rfl⟩
            go_wp2_with fail
            obtain ⟨ks, hks⟩ : ∃ ks : List ByteArray, ks = [] := ⟨_, rfl⟩
            rw [← hks] at hS
            have hfe : Hid (ks.filter (fun x => x ≠ but) = []) := by rw [hks]; exact (rfl : ([] : List ByteArray) = [])
            have hkl : ks.length ≤ 60 := by rw [hks]; simp
            clear hks
            refine (drop_any hS.rc but).mono ?_
            rintro e w5 ⟨rfl, ns5, hR, hf, hn⟩
            have hS5 := hS.step hR hf hn
            clear hR hf hn hS
            have hfl := List.length_filter_le (fun x : ByteArray => decide (x ≠ but)) ks
            have hfl2 : (ks.filter (fun x => x ≠ but)).length ≤ 1000000 := by omega
            go_wp2_with fail
            refine (all_any hS5.rc hfl2).mono ?_
            rintro e w6 ⟨v6, rfl, hown, hb6⟩
            have hS6 := hS5.below hb6
            clear hS5 hb6 hfl hfl2
            rw [hfe.out] at hown
            obtain ⟨a6, c6, rfl⟩ := (Reads.of_owns hown).shape
            clear hown
            go_wp2
            go_ret
            exact ⟨rfl, hS6.bel⟩
          | cons x l =>
            have hl0 : l = [] ∧ x = but := by
              subst hks
              refine ⟨?_, hall x (by simp)⟩
              cases l with
              | nil => rfl
              | cons y l =>
                have h1 := hall x (by simp)
                have h2 := hall y (by simp)
                have := hnd.out
                rw [h1, h2] at this
                simp at this
            obtain ⟨rfl, rfl⟩ := hl0
            subst hks
            clear hall
            have hnb : x ∈ [x] := by simp
            go_wp2_with fail
            refine (len_any hS.rc).mono ?_
            rintro e w4 ⟨rfl, rfl⟩
            go_wp2_with fail
            refine (has_any hS.rc x).mono ?_
            rintro e w4 ⟨rfl, rfl⟩
            rw [decide_eq_true hnb]
            go_wp2_with fail
            obtain ⟨ks, hks⟩ : ∃ ks, ks = [x] := ⟨_, rfl⟩
            rw [← hks] at hS hfe
            have hkl : ks.length ≤ 60 := by rw [hks]; simp
            clear hks
            obtain ⟨but, rfl⟩ : ∃ but, but = x := ⟨_, rfl⟩
            refine (drop_any hS.rc but).mono ?_
            rintro e w5 ⟨rfl, ns5, hR, hf, hn⟩
            have hS5 := hS.step hR hf hn
            clear hR hf hn hS
            have hfl := List.length_filter_le (fun x : ByteArray => decide (x ≠ but)) ks
            have hfl2 : (ks.filter (fun x => x ≠ but)).length ≤ 1000000 := by omega
            go_wp2_with fail
            refine (all_any hS5.rc hfl2).mono ?_
            rintro e w6 ⟨v6, rfl, hown, hb6⟩
            have hS6 := hS5.below hb6
            clear hS5 hb6 hfl hfl2
            rw [hfe.out] at hown
            obtain ⟨a6, c6, rfl⟩ := (Reads.of_owns hown).shape
            clear hown
            go_wp2
            go_ret
            exact ⟨rfl, hS6.bel⟩
end Go.Proofs.Ytlddjcfbapdjnaa
