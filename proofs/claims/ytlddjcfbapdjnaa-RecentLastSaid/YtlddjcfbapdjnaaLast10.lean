/- RecentLast returns true at every input, and leaves the input as it was: the statement RecentLastSaid, with no condition of its own. -/
import Derived.Test.YtlddjcfbapdjnaaRows
import Derived.Test.YtlddjcfbapdjnaaLaw10
import Derived.Test.YtlddjcfbapdjnaaOpen
namespace Go.Proofs.Ytlddjcfbapdjnaa
open Go.RowKit

theorem touch_len' {ks : List ByteArray} (k : ByteArray) : (touch ks k).length = (ks.filter (fun x => x ≠ k)).length + 1 := by simp [touch]
theorem touch_last (ks : List ByteArray) (k : ByteArray) : (touch ks k)[(ks.filter (fun x => x ≠ k)).length]? = some k := by simp [touch]
/-- What stands at place 'at' behind the touch. -/
theorem touch_at {ks : List ByteArray} {k : ByteArray} {j : Nat} (hj : j < ks.length) (hx : ks[j] ≠ k) : (touch ks k)[((ks.take j).filter (fun x => x ≠ k)).length]? = some ks[j] ∧ ((ks.take j).filter (fun x => x ≠ k)).length < (ks.filter (fun x => x ≠ k)).length := by
  have e : ks = ks.take j ++ ks[j] :: ks.drop (j + 1) := by rw [← List.drop_eq_getElem_cons hj, List.take_append_drop]
  have ef : ks.filter (fun x => x ≠ k) = (ks.take j).filter (fun x => x ≠ k) ++ ks[j] :: (ks.drop (j + 1)).filter (fun x => x ≠ k) := by
    conv => lhs; rw [e]
    rw [List.filter_append, List.filter_cons, if_pos (by simpa using hx)]
  constructor
  · rw [touch, ef]; simp
  · rw [ef]; simp

theorem oldest_last {ks : List ByteArray} {k : Nat} {last : ByteArray} (hnd : ks.Nodup) (hk : k + 1 < ks.length) (hl : ks[ks.length - 1]? = some last) : oldest10 last (ks.drop k) = (ks[k], true) := by
  have hne : ks[k] ≠ last := by
    intro e
    have h1 : ks[k]? = some last := by rw [List.getElem?_eq_getElem (by omega), e]
    have := (List.getElem?_inj (by omega) hnd).1 (h1.trans hl.symm)
    omega
  rw [List.drop_eq_getElem_cons (by omega)]
  simp only [oldest10, List.find?_cons, ne_eq, hne, not_false_eq_true, decide_true]
theorem oldest_alone {ks : List ByteArray} {k : Nat} {last : ByteArray} (hk : k + 1 = ks.length) (hl : ks[ks.length - 1]? = some last) : oldest10 last (ks.drop k) = (ByteArray.empty, false) := by
  have e : ks[k]'(by omega) = last := by
    have h1 : ks[k]? = some last := by rw [← hl]; congr 1; omega
    rw [List.getElem?_eq_getElem (by omega)] at h1
    simpa using h1
  rw [List.drop_eq_getElem_cons (by omega), List.drop_of_length_le (by omega), e]
  simp [oldest10]
theorem drop_filter {ks : List ByteArray} {k : Nat} (hnd : ks.Nodup) (hk : k < ks.length) : (ks.drop k).filter (fun x => x ≠ ks[k]) = ks.drop (k + 1) := by
  have h1 : (ks.drop k).Nodup := hnd.sublist (List.drop_sublist _ _)
  rw [List.drop_eq_getElem_cons hk] at h1 ⊢
  rw [List.filter_cons, if_neg (by simp)]
  exact touch_out (List.nodup_cons.1 h1).1

set_option maxRecDepth 100000 in
set_option maxHeartbeats 4000000 in
theorem last10_any {w : World} {a : Option Addr} {n ca : Nat} {keys : List ByteArray} (hx : Reads w 1 (.slice a n ca) n (keys.map Value.string)) :
    Calls Try.prog 4 #[.slice a n ca] w fun e w' => e = .returned (.bool true) ∧ Below w.heap.size w w' := by
  have lx := hx.len.2
  simp only [List.length_map, Nat.mul_one] at lx
  by_cases hbig : 60 < n
  · clear lx hx
    go_enter Try.func4, Try.ntmps4
    go_wp2_with fail
    refine (alive10_any w).mono ?_
    rintro e w1 ⟨rfl, hb1⟩
    go_wp2
    go_ret
    exact ⟨rfl, hb1⟩
  · go_enter Try.func4, Try.ntmps4
    go_wp2_with fail
    refine (alive10_any w).mono ?_
    rintro e w1 ⟨rfl, hb1⟩
    go_wp2_with fail
    refine (new_any w1).mono ?_
    rintro e w2 ⟨r, m, rfl, hR, hb2, hr, hm⟩
    have hS : St w.heap.size w w2 r m [] [] := ⟨hR, fun b hb => by have := hb1.size; simp at hb; rcases hb with rfl | rfl <;> omega, hb1.trans (hb2.mono hb1.size), Nat.le_trans hb1.size hb2.size⟩
    clear hR hb1 hb2 hr hm
    go_wp2_with fail
    go_loopw [24] (fun i wr => ∃ (k m : Nat) (ks : List ByteArray) (ns : List Nat), k ≤ n ∧ i = .int .i64 k ∧ ks.length ≤ k ∧ St w.heap.size w wr r m ks ns) (fun i _ => n - (intOf i).toNat)
    case atStart => exact ⟨0, m, [], [], Nat.zero_le _, rfl, Nat.le_refl _, hS⟩
    case round =>
      obtain ⟨k, m, ks, ns, hk, rfl, hkl, hSt⟩ := hrel
      clear hS
      by_cases hlt : k < n
      · have hkx : k < keys.length := by omega
        obtain ⟨b1, o1, rfl, hc1⟩ := hx.at (j := k) (by simp; exact hkx)
        have d0 := hc1 _ _ (map_str_get hkx)
        have d0 : wr.cell? ⟨b1, o1 + k, none⟩ = some (.string keys[k]) := (hSt.bel.cell (by exact World.block_lt_of_cell? _ _ d0)).trans d0
        obtain ⟨key, hkey⟩ : ∃ x, x = keys[k] := ⟨_, rfl⟩
        rw [← hkey] at d0
        clear hkey hc1 hx lx
        go_wp2_with fail
        refine (all_any hSt.rc (by omega)).mono ?_
        rintro e w3 ⟨v3, rfl, hown3, hb3⟩
        obtain ⟨a3, c3, rfl⟩ := (Reads.of_owns hown3).shape
        have hS3 := hSt.below hb3
        have hl3 : LS w3 (.slice a3 ks.length c3) ks (r :: m :: ns) := LS.of_owns hown3 (fun b hb => hSt.rc.lt b hb)
        clear hSt hb3 hown3 d0
        go_wp2_with fail
        refine (touch_any hS3.rc key).mono ?_
        rintro e w4 ⟨rfl, ns4, hR, hf, hn⟩
        have hS4 := hS3.step hR hf hn
        have hl4 := hl3.fr hf (newOf_fp hn)
        clear hS3 hl3 hR hf hn
        have htl := touch_len' (ks := ks) key
        have hfl := List.length_filter_le (fun x : ByteArray => decide (x ≠ key)) ks
        go_wp2_with fail
        refine (all_any hS4.rc (by omega)).mono ?_
        rintro e w5 ⟨v5, rfl, hown5, hb5⟩
        have hS5 := hS4.below hb5
        have hl5 := hl4.below hb5
        clear hS4 hl4 hb5
        obtain ⟨f, hfe⟩ : ∃ f, f = (ks.filter (fun x => x ≠ key)).length := ⟨_, rfl⟩
        rw [← hfe] at htl hfl
        rw [htl] at hown5
        have hr5 := Reads.of_owns hown5
        obtain ⟨a5, c5, rfl⟩ := hr5.shape
        obtain ⟨b5, o5, rfl, hc5⟩ := hr5.at (j := f) (by simp only [List.length_map]; omega)
        have dl := hc5 f (.string key) (by rw [List.getElem?_map, hfe, touch_last]; rfl)
        have hse := str_eq (rfl : key = key)
        have hr4 := hl5.reads
        have htl' := Lib.hid htl
        replace hfe := Lib.hid hfe
        clear hown5 hr5 htl
        have i0 : (f : Int) + 1 - 1 = f := by omega
        have i1 : (((f : Int) + 1 == 0) = false) := by simp; omega
        go_wp2_with fail
        go_loop [8, 50] (fun at_ i => ∃ j : Nat, j ≤ ks.length ∧ i = .int .i64 j ∧ at_ = .int .i64 ((ks.take j).filter (fun x => x ≠ key)).length) (fun _ i => ks.length - (intOf i).toNat)
        case atStart => exact ⟨0, Nat.zero_le _, rfl, rfl⟩
        case round =>
          obtain ⟨j, hj, rfl, rfl⟩ := hrel
          by_cases hjl : j < ks.length
          · obtain ⟨b3, o3, rfl, hc3⟩ := hr4.at (j := j) (by simp; exact hjl)
            have dx := hc3 _ _ (map_str_get hjl)
            have ef := filter_snoc (fun x : ByteArray => decide (x ≠ key)) ks j hjl
            have hta := touch_at (ks := ks) (k := key) hjl
            obtain ⟨x, hxe⟩ : ∃ x, x = ks[j] := ⟨_, rfl⟩
            rw [← hxe] at dx ef hta
            obtain ⟨q, hq⟩ : ∃ q, q = ((ks.take j).filter (fun x => x ≠ key)).length := ⟨_, rfl⟩
            have efl : ((ks.take (j + 1)).filter (fun x => x ≠ key)).length = q + if x ≠ key then 1 else 0 := by
              rw [ef, List.length_append, hq]; split <;> simp_all
            rw [← hq] at hta ⊢
            have hql : q ≤ ks.length := by rw [hq]; exact Nat.le_trans (List.length_filter_le _ _) (by simp; omega)
            replace efl := Lib.hid efl
            clear ef hq hc3 hxe
            by_cases hxy : x = key
            · have hs := str_eq hxy
              replace hxy := Lib.hid hxy
              clear hta
              go_wp2
              go_round
              case rel => exact ⟨j + 1, by omega, by go_num, by rw [efl.out, if_neg (by simp [hxy.out])]; rfl⟩
              case measure => simp [intOf]; omega
            · have hs := str_ne hxy
              obtain ⟨t1, t2⟩ := hta hxy
              rw [← hfe.out] at t2
              have dq := hc5 q (.string x) (by rw [List.getElem?_map, t1]; rfl)
              have hxx := str_eq (rfl : x = x)
              have n1 : ¬ ((f : Int) + 1 ≤ (q : Int)) := by omega
              have n2 : (q : Int) < (f : Int) + 1 := by omega
              have n3 : (0 : Int) ≤ (q : Int) := by omega
              replace hxy := Lib.hid hxy
              clear hta t1
              go_wp2
              go_round
              case rel => exact ⟨j + 1, by omega, by go_num, by rw [efl.out, if_pos (by simp [hxy.out])]; go_num⟩
              case measure => simp [intOf]; omega
          · clear dl hr4
            go_wp2
            go_roundw
            case rel => exact ⟨k + 1, m, touch ks key, ns4, by omega, by go_num, by rw [htl'.out]; omega, hS5⟩
            case measure => simp [intOf]; omega
      · clear hx lx
        go_wp2_with fail
        refine (all_any hSt.rc (by omega)).mono ?_
        rintro e w3 ⟨v3, rfl, hown3, hb3⟩
        obtain ⟨a3, c3, rfl⟩ := (Reads.of_owns hown3).shape
        have hS3 := hSt.below hb3
        have hl3 : LS w3 (.slice a3 ks.length c3) ks (r :: m :: ns) := LS.of_owns hown3 (fun b hb => hSt.rc.lt b hb)
        have hnd := Lib.hid hSt.rc.ksnd
        clear hSt hb3 hown3
        go_wp2_with fail
        go_loopw [77] (fun i wx => ∃ (j : Nat) (ns : List Nat), j ≤ ks.length ∧ i = .int .i64 j ∧ St w.heap.size w wx r m (ks.drop j) ns ∧ LS wx (.slice a3 ks.length c3) ks (r :: m :: ns)) (fun i _ => ks.length - (intOf i).toNat)
        case atStart => exact ⟨0, ns, Nat.zero_le _, rfl, hS3, hl3⟩
        case round =>
          obtain ⟨j, ns5, hj, rfl, hS5, hl5⟩ := hrel
          clear hS3 hl3
          by_cases hjl : j < ks.length
          · obtain ⟨last, hlast⟩ : ∃ x, ks[ks.length - 1]? = some x := ⟨_, List.getElem?_eq_getElem (by omega)⟩
            obtain ⟨b3, o3, rfl, hc3⟩ := hl5.reads.at (j := j) (by simp; exact hjl)
            have dx := hc3 _ _ (map_str_get hjl)
            have dl := hc3 (ks.length - 1) (.string last) (by rw [List.getElem?_map, hlast]; rfl)
            have e1 : ((ks.length : Int) - 1) = ((ks.length - 1 : Nat) : Int) := by omega
            have hin : ks[j] ∈ ks.drop j := by rw [List.drop_eq_getElem_cons hjl]; exact List.mem_cons_self ..
            have hdf := drop_filter hnd.out hjl
            have h1 : ∀ h : j + 1 < ks.length, oldest10 last (ks.drop j) = (ks[j], true) := fun h => oldest_last hnd.out h hlast
            have h2 : ∀ h : j + 1 = ks.length, oldest10 last (ks.drop j) = (ByteArray.empty, false) := fun h => oldest_alone h hlast
            obtain ⟨x, hxe⟩ : ∃ x, x = ks[j] := ⟨_, rfl⟩
            rw [← hxe] at dx hin hdf
            have h1 : j + 1 < ks.length → oldest10 last (ks.drop j) = (x, true) := fun h => by rw [hxe]; exact h1 h
            obtain ⟨L, hL⟩ : ∃ L, L = ks.length := ⟨_, rfl⟩
            have hLb : L ≤ 60 := by omega
            have hl5' := Lib.hid hl5
            replace hdf := Lib.hid hdf
            replace h1 := Lib.hid h1
            replace h2 := Lib.hid h2
            clear hc3 hxe hlast hl5 e1
            go_wp2_with fail
            have hrc5 := hS5.rc
            refine (oldest_b hrc5 last).mono ?_
            rintro e w6 ⟨rfl, hb6⟩
            have hS6 := hS5.below hb6
            have hl6 := hl5'.out.below hb6
            clear hS5 hl5' hb6 hrc5 dx dl
            by_cases hj1 : j + 1 < ks.length
            · rw [h1.out hj1]
              have t1 : (j : Int) < (ks.length : Int) - 1 := by omega
              have hxx := str_eq (rfl : x = x)
              go_wp2_with fail
              refine (drop_was hS6.rc (k := x) hin).mono ?_
              rintro e w7 ⟨rfl, ns7, hR, hf, hn⟩
              have hS7 := hS6.step hR hf hn
              have hl7 := hl6.fr hf (newOf_fp hn)
              rw [hdf.out] at hS7
              clear hR hf hn hS6 hl6 hin
              go_wp2
              go_roundw
              case rel => exact ⟨j + 1, ns7, by omega, by go_num, hS7, hl7⟩
              case measure => simp [intOf]; omega
            · have hj2 : j + 1 = ks.length := by omega
              rw [h2.out hj2]
              have t1 : ¬ (j : Int) < (ks.length : Int) - 1 := by omega
              replace hj2 := Lib.hid hj2
              go_wp2_with fail
              refine (drop_was hS6.rc (k := x) hin).mono ?_
              rintro e w7 ⟨rfl, ns7, hR, hf, hn⟩
              have hS7 := hS6.step hR hf hn
              have hl7 := hl6.fr hf (newOf_fp hn)
              rw [hdf.out] at hS7
              clear hR hf hn hS6 hl6 hin
              go_wp2
              go_roundw
              case rel => exact ⟨j + 1, ns7, by omega, by go_num, hS7, hl7⟩
              case measure => simp [intOf]; omega
          · have hjk : j = ks.length := by omega
            rw [hjk, List.drop_length] at hS5
            clear hl5
            go_wp2_with fail
            refine (len_any hS5.rc).mono ?_
            rintro e w6 ⟨rfl, rfl⟩
            go_wp2
            go_ret
            exact ⟨rfl, hS5.bel⟩
end Go.Proofs.Ytlddjcfbapdjnaa
