/- NearLast: its walk. -/
import Derived.Test.YtlddjcfbapdjnaaLastN
import Derived.Test.YtlddjcfbapdjnaaCut
import Derived.Outline
namespace Go.Proofs.Ytlddjcfbapdjnaa
open Go.RowKit

theorem cap_of_owns {w : World} {B e : Nat} {a : Option Addr} {n c size : Nat} {xs : List Value} {k : Nat} (h : w.ownsRow B e size (.slice a n c) k xs) : n ≤ c := by
  rcases h.2 with ⟨e, _⟩ | ⟨g, cap, cur, e, _, _, hc, _⟩
  · cases e; exact Nat.le_refl _
  · cases e; exact hc
theorem isN (key : ByteArray) : (key.toList == [97, 32, 107, 101, 121, 32, 116, 104, 97, 116, 32, 110, 111, 98, 111, 100, 121, 32, 101, 108, 115, 101, 32, 104, 97, 115]) = decide (key = kN) := by
  have eN : kN.toList = [97, 32, 107, 101, 121, 32, 116, 104, 97, 116, 32, 110, 111, 98, 111, 100, 121, 32, 101, 108, 115, 101, 32, 104, 97, 115] := by first | decide | kernel_rfl
  rw [← eN, str_beq]

def wo (key : ByteArray) (l : List ByteArray) : List ByteArray := l.filter (fun x => x ≠ key)
theorem wo_touch (key : ByteArray) (l : List ByteArray) : wo key l ++ [key] = touch l key := rfl
theorem wo_len (key : ByteArray) (l : List ByteArray) : (wo key l).length ≤ l.length := List.length_filter_le _ _
theorem wo_snoc (key : ByteArray) (l : List ByteArray) (i : Nat) (h : i < l.length) : wo key (l.take (i + 1)) = wo key (l.take i) ++ (if l[i] ≠ key then [l[i]] else []) := by
  have := filter_snoc (fun x : ByteArray => decide (x ≠ key)) l i h
  simpa [wo] using this
set_option maxHeartbeats 1600000 in
set_option maxRecDepth 100000 in
theorem last23_any {w : World} {a : Option Addr} {n ca : Nat} {keys : List ByteArray} (hx : Reads w 1 (.slice a n ca) n (keys.map Value.string)) (most : Int) :
    Calls Try.prog 8 #[.int .i64 most, .slice a n ca] w fun e w' => e = .returned (.bool true) ∧ Below w.heap.size w w' := by
  have lx := hx.len.2
  simp only [List.length_map, Nat.mul_one] at lx
  by_cases hn40 : 40 < n
  · clear lx hx
    go_enter Try.func8, Try.ntmps8
    go_wp2_with fail
    refine (alive23_any w).mono ?_
    rintro e w1 ⟨rfl, hb1⟩
    go_wp2
    go_ret
    exact ⟨rfl, hb1⟩
  by_cases hm0 : most < 0
  · clear lx hx
    go_enter Try.func8, Try.ntmps8
    go_wp2_with fail
    refine (alive23_any w).mono ?_
    rintro e w1 ⟨rfl, hb1⟩
    go_wp2
    go_ret
    exact ⟨rfl, hb1⟩
  by_cases hm50 : 50 < most
  · clear lx hx
    go_enter Try.func8, Try.ntmps8
    go_wp2_with fail
    refine (alive23_any w).mono ?_
    rintro e w1 ⟨rfl, hb1⟩
    go_wp2
    go_ret
    exact ⟨rfl, hb1⟩
  · go_enter Try.func8, Try.ntmps8
    go_wp2_with fail
    refine (alive23_any w).mono ?_
    rintro e w1 ⟨rfl, hb1⟩
    go_wp2_with fail
    refine (near_new most w1).mono ?_
    rintro e w2 ⟨nb, fp, rfl, hN, hb2, hfp⟩
    have hs1 := hb1.size
    have hs2 := hb2.size
    have hNH : NH w.heap.size w w2 nb fp ⟨[], [], 0, max most 0⟩ := ⟨hN, fun b hb => by have := hfp b hb; omega, hb1.trans (hb2.mono hs1), by omega⟩
    rw [show max most 0 = most by omega] at hNH
    clear hN hb1 hb2 hfp hs1 hs2
    go_wp2_with fail
    refine (near_begin hNH.near (by show (0 : Int) ≤ _; omega) (by show (0 : Int) ≤ 0; omega) kN).mono ?_
    rintro e w3 ⟨rfl, hn3, hw3⟩
    have hN3 := hNH.step hn3 hw3
    have hS3 : SL (NS.begin ⟨[], [], 0, most⟩ kN) [] most 0 := ⟨rfl, rfl, rfl, by show (1 : Int) ≤ 0 + 1 ∧ (0 : Int) + 1 ≤ _; omega, by show ((0 : Nat) : Int) ≤ most; omega, by simp⟩
    clear hNH hn3 hw3
    generalize NS.begin ⟨[], [], 0, most⟩ kN = s3 at *
    go_wp2_with fail
    go_loopw [7, 33] (fun o7 i wr => ∃ (k : Nat) (fp : List Nat) (s : NS) (ks : List ByteArray), k ≤ n ∧ i = .int .i64 k ∧ SL s ks most k ∧ NH w.heap.size w wr nb fp s ∧ LS wr o7 ks fp ∧ ∃ a c, o7 = .slice a ks.length c ∧ ks.length ≤ c) (fun _ i _ => n - (intOf i).toNat)
    case atStart =>
      exact ⟨0, fp, s3, [], Nat.zero_le _, rfl, hS3, hN3.below ((Below.refl _ _).alloc (Nat.le_refl _) _), LS.of_owns (owns_empty w3 _ 1) (fun b hb => hN3.near.lt b hb), _, _, rfl, Nat.le_refl _⟩
    case round =>
      obtain ⟨k, fp, s, ks, hk, rfl, hSL, hNH, hl, a7, c7, rfl, hcap⟩ := hrel
      clear hN3 hS3
      by_cases hlt : k < n
      · have hkx : k < keys.length := by omega
        obtain ⟨b1, o1, rfl, hc1⟩ := hx.at (j := k) (by simp; exact hkx)
        have d0 := hc1 _ _ (map_str_get hkx)
        have d0 : wr.cell? ⟨b1, o1 + k, none⟩ = some (.string keys[k]) := (hNH.bel.cell (by exact World.block_lt_of_cell? _ _ d0)).trans d0
        obtain ⟨key, hkey⟩ : ∃ x, x = keys[k] := ⟨_, rfl⟩
        rw [← hkey] at d0
        have hN := isN key
        have hlast := hSL.last
        replace hl := Lib.hid hl
        clear hkey hc1 hx lx
        by_cases hkN : key = kN
        · rw [hkN] at hN d0
          simp only [decide_true] at hN
          go_wp2_with fail
          go_ret
          exact ⟨rfl, hNH.bel⟩
        · rw [show decide (key = kN) = false by simp [hkN]] at hN
          replace hSL := Lib.hid hSL
          replace hlast := Lib.hid hlast
          go_wp2_with fail
          refine (near_begin hNH.near (by have := hlast.out; omega) (by have := hlast.out; omega) key).mono ?_
          rintro e w4 ⟨rfl, hn4, hw4⟩
          have hN4 := hNH.step hn4 hw4
          have hl4 := hl.out.fr hw4.1 hw4.2
          have rv3 : ∀ c, RV c (cells6 (V.mk 3 ⟨#[]⟩ k 0 false []).kind (V.mk 3 ⟨#[]⟩ k 0 false []).text (V.mk 3 ⟨#[]⟩ k 0 false []).int (V.mk 3 ⟨#[]⟩ k 0 false []).real (V.mk 3 ⟨#[]⟩ k 0 false []).flag none (V.mk 3 ⟨#[]⟩ k 0 false []).list.length 0) (V.mk 3 ⟨#[]⟩ k 0 false []) := fun c => RV.leaf _ _ _ _ _ _ _ _
          replace hl4 := Lib.hid hl4
          clear hNH hl hn4 hw4 d0 hN
          go_wp2_with fail
          refine (near_fill hN4.near (s.last + 1) (v := .mk 3 ⟨#[]⟩ k 0 false []) (a := none) (cap := 0) (rv3 _) (by simp [V.count, V.countL])).mono ?_
          rintro e w5 ⟨fp5, rfl, hn5, hw5⟩
          have hN5 := hN4.step hn5 hw5
          have hl5 := hl4.out.fr hw5.1 hw5.2
          have hS5 := hSL.out.fill key (.mk 3 ⟨#[]⟩ k 0 false [])
          generalize NS.fill (s.begin key) (s.last + 1) (.mk 3 ⟨#[]⟩ k 0 false []) = s5 at *
          have hr5 := hl5.reads
          have hb5 := hN5.le
          have hfl := fun j => wo_len key (ks.take j)
          have hkl : ks.length ≤ 50 := by have := hSL.out.len; omega
          replace hS5 := Lib.hid hS5
          replace hN5 := Lib.hid hN5
          replace hfl := Lib.hid hfl
          clear hN4 hl4 hn5 hw5 rv3 hl5
          obtain ⟨B5, hB5⟩ : ∃ B5, B5 = w5.heap.size := ⟨_, rfl⟩
          go_wp2_with fail
          go_loopw [10, 50] (fun v i wx => ∃ j : Nat, j ≤ ks.length ∧ i = .int .i64 j ∧ wx.ownsRow w5.heap.size 9 1 v (wo key (ks.take j)).length ((wo key (ks.take j)).map Value.string) ∧ Below w5.heap.size w5 wx) (fun _ i _ => ks.length - (intOf i).toNat)
          case atStart => exact ⟨0, Nat.zero_le _, rfl, owns_empty w5 _ 1, (Below.refl _ _).alloc (Nat.le_refl _) _⟩
          case round =>
            obtain ⟨j, hj, rfl, hown, hbel⟩ := hrel
            have hrx := hr5.below hbel
            by_cases hjl : j < ks.length
            · obtain ⟨b3, o3, rfl, hc3⟩ := hrx.at (j := j) (by simp; exact hjl)
              have dx := hc3 _ _ (map_str_get hjl)
              have ef := wo_snoc key ks j hjl
              obtain ⟨x, hxe⟩ : ∃ x, x = ks[j] := ⟨_, rfl⟩
              rw [← hxe] at dx ef
              have hq : (wo key (ks.take j)).length < 1000000000 := by have h1 := hfl.out j; have h2 : (ks.take j).length ≤ ks.length := (by rw [List.length_take]; omega); omega
              clear hc3 hxe hrx
              by_cases hxy : x = key
              · have hs := str_eq hxy
                rw [if_neg (by simpa using hxy), List.append_nil] at ef
                replace hxy := Lib.hid hxy
                replace ef := Lib.hid ef
                go_wp2
                go_roundw
                case rel => exact ⟨j + 1, by omega, by go_num, by rw [ef.out]; exact hown, hbel⟩
                case measure => simp [intOf]; omega
              · have hs := str_ne hxy
                rw [if_pos hxy] at ef
                replace hxy := Lib.hid hxy
                replace ef := Lib.hid ef
                go_wp2_with (at_builtin; refine append_elem rfl rfl eStr rfl hown rfl rfl rfl hq hbel.size ?_)
                intro v' w6 hown' hfr
                have hbel' := Below.of_append hbel hfr (fun k hk => (owns_block hown k hk).1) hbel.size
                clear hown hbel hfr
                go_wp2
                go_roundw
                case rel => exact ⟨j + 1, by omega, by go_num, by rw [ef.out, List.length_append, List.map_append]; exact hown', hbel'⟩
                case measure => simp [intOf]; omega
            · have hjk : j = ks.length := by omega
              subst hjk
              rw [List.take_length] at hown
              have hq : (wo key ks).length < 1000000000 := by have := wo_len key ks; omega
              clear hrx hr5
              go_wp2_with (at_builtin; refine append_elem_at rfl rfl eStr rfl hown rfl rfl rfl hq hbel.size ?_)
              intro v' w6 hown6 hfr6 hnew6
              have hbel6 := Below.of_append hbel hfr6 (fun k hk => (owns_block hown k hk).1) hbel.size
              have eT := wo_touch key ks
              have hL6 := LS.of_owns (xs := touch ks key) (by rw [← eT, List.length_append, List.map_append]; exact hown6) (fun b hb => hN5.out.near.lt b hb)
              have hN6 := hN5.out.below hbel6
              obtain ⟨a6, c6, rfl⟩ := hL6.shape
              have hcap6 := cap_of_owns hown6
              have hlen6 : (touch ks key).length = (wo key ks).length + 1 := by rw [← eT]; simp
              clear hown hbel hfr6 hnew6 hown6 eT
              obtain ⟨P, hP⟩ : ∃ P, P = pushed most ks key := ⟨_, rfl⟩
              generalize hL0 : (touch ks key).length = L at hcap6 hlen6 hL6 ⊢
              have hL := hL0.symm
              clear hL0
              have hS5' := hS5.out
              have hlen0 := hSL.out.len
              have hLk : L ≤ ks.length + 1 := by rw [hL]; exact touch_len ks key
              have hLb : (L : Int) ≤ 51 := by omega
              rw [← hP] at hS5'
              clear hS5 hN5 hlen6
              by_cases hgt : most < (L : Int)
              · obtain ⟨a7, he7, hL7⟩ := hL6.part (l := 1) (h := L) (by omega) (by omega) hcap6
                have hPe : P = ((touch ks key).take L).drop 1 := by rw [hP, pushed, if_pos (by rw [← hL]; exact hgt), hL, List.take_length, List.drop_one]
                have hPl : P.length = L - 1 := by rw [hPe, List.length_drop, List.length_take, ← hL]; omega
                rw [← hPe, ← hPl] at hL7
                have hr7 := fun W => (strs_from a6 L c6 1 (by omega) ((L : Int) - most) (by omega) W).trans (congrArg (fun v => Result.ok v W) he7)
                rw [← hPl] at hr7
                have hc7 : P.length ≤ c6 - 1 := by omega
                generalize c6 - 1 = c7 at *
                have hPb : P.length ≤ 51 := by omega
                replace hPl := Lib.hid hPl
                replace hP := Lib.hid hP
                clear hPe he7 hL6 hL
                by_cases h3 : (k : Int) % 3 = 1
                · have h3b : ((k : Int) % 3 == 1) = true := by simpa using h3
                  replace h3 := Lib.hid h3
                  obtain ⟨a8, he8, hL8⟩ := hL7.part (l := 0) (h := P.length - 1) (by omega) (by omega) hc7
                  rw [Nat.sub_zero, Nat.sub_zero, List.drop_zero] at hL8
                  have hQ : P.filter (fun x => x ≠ key) = P.take (P.length - 1) := by rw [hP.out]; exact pushed_drop hlen0
                  have hr8 := fun x hx W => (strs_to a7 P.length c7 (P.length - 1) (by omega) x hx W).trans (congrArg (fun v => Result.ok v W) he8)
                  have hQl : (P.take (P.length - 1)).length = P.length - 1 := by rw [List.length_take]; omega
                  have hS6 := hS5'.drop hkN
                  rw [hQ] at hS6
                  generalize P.take (P.length - 1) = Q at *
                  have hc8 : Q.length ≤ c7 := by omega
                  rw [← hQl] at hL8 hr8
                  simp only [Nat.sub_zero] at hr8
                  by_cases h2 : 2 ≤ P.length
                  · have hr9 := fun W => hr8 ((P.length : Int) - 1) (by omega) W
                    have hg : (0 : Int) < (P.length : Int) - 1 := by omega
                    have hg' : (1 : Int) < (P.length : Int) := by omega
                    replace hr8 := Lib.hid hr8
                    replace hQ := Lib.hid hQ
                    replace hQl := Lib.hid hQl
                    replace hS6 := Lib.hid hS6
                    replace hS5' := Lib.hid hS5'
                    clear he8
                    go_wp2_with fail
                    refine (near_drop hN6.near key).mono ?_
                    rintro e w7 ⟨fp7, rfl, hn7, hw7⟩
                    have hN7 := hN6.step hn7 hw7
                    have hL7 := hL8.fr hw7.1 hw7.2
                    replace hN6 := hN7
                    replace hS6 := hS6.out
                    clear hn7 hw7 hL8 hN7 
                    generalize NS.drop s5 key = s6 at *
                    have hkx := hS6.keys
                    have hts6 := hS6.ts
                    have hlen6 := hS6.len
                    replace hS6 := Lib.hid hS6
                    go_wp2_with fail
                    refine (near_keys hN6.near (by have := congrArg List.length hkx; simp only [NS.keys, List.length_map] at this; omega)).mono ?_
                    rintro e w8 ⟨v8, rfl, hown8, hb8⟩
                    rw [hkx] at hown8
                    have hL8 := hL7.below hb8
                    have hN8 := hN6.below hb8
                    obtain ⟨a8, c8, rfl⟩ := (Reads.of_owns hown8).shape
                    replace hkx := Lib.hid hkx
                    replace hts6 := Lib.hid hts6
                    go_wp2_with fail
                    refine (same06_b (Reads.of_owns hown8) hL8.reads (by omega) (by omega)).mono ?_
                    rintro e w9 ⟨rfl, hb9⟩
                    have hN9 := hN8.below hb9
                    have hL9 := hL8.below hb9
                    clear hN6 hL7 hb8 hown8 hL8 hN8 hb9
                    go_wp2_with fail
                    refine (near_tickets hN9.near).mono ?_
                    rintro e w9 ⟨rfl, rfl⟩
                    rw [hts6.out]
                    go_wp2
                    go_roundw
                    case rel => exact ⟨k + 1, _, _, _, by omega, by go_num, hS6.out, hN9, hL9, _, _, rfl, by omega⟩
                    case measure => simp [intOf]; omega
                  · have hr9 := fun W => hr8 0 (by omega) W
                    have hg : ¬ ((0 : Int) < (P.length : Int) - 1) := by omega
                    have hg' : ¬ ((1 : Int) < (P.length : Int)) := by omega
                    have hP1 : P.length ≤ 1 := by omega
                    replace h2 := Lib.hid h2
                    replace hr8 := Lib.hid hr8
                    replace hQ := Lib.hid hQ
                    replace hQl := Lib.hid hQl
                    replace hS6 := Lib.hid hS6
                    replace hS5' := Lib.hid hS5'
                    clear he8
                    go_wp2_with fail
                    refine (near_drop hN6.near key).mono ?_
                    rintro e w7 ⟨fp7, rfl, hn7, hw7⟩
                    have hN7 := hN6.step hn7 hw7
                    have hL7 := hL8.fr hw7.1 hw7.2
                    replace hN6 := hN7
                    replace hS6 := hS6.out
                    clear hn7 hw7 hL8 hN7 
                    generalize NS.drop s5 key = s6 at *
                    have hkx := hS6.keys
                    have hts6 := hS6.ts
                    have hlen6 := hS6.len
                    replace hS6 := Lib.hid hS6
                    go_wp2_with fail
                    refine (near_keys hN6.near (by have := congrArg List.length hkx; simp only [NS.keys, List.length_map] at this; omega)).mono ?_
                    rintro e w8 ⟨v8, rfl, hown8, hb8⟩
                    rw [hkx] at hown8
                    have hL8 := hL7.below hb8
                    have hN8 := hN6.below hb8
                    obtain ⟨a8, c8, rfl⟩ := (Reads.of_owns hown8).shape
                    replace hkx := Lib.hid hkx
                    replace hts6 := Lib.hid hts6
                    go_wp2_with fail
                    refine (same06_b (Reads.of_owns hown8) hL8.reads (by omega) (by omega)).mono ?_
                    rintro e w9 ⟨rfl, hb9⟩
                    have hN9 := hN8.below hb9
                    have hL9 := hL8.below hb9
                    clear hN6 hL7 hb8 hown8 hL8 hN8 hb9
                    go_wp2_with fail
                    refine (near_tickets hN9.near).mono ?_
                    rintro e w9 ⟨rfl, rfl⟩
                    rw [hts6.out]
                    go_wp2
                    go_roundw
                    case rel => exact ⟨k + 1, _, _, _, by omega, by go_num, hS6.out, hN9, hL9, _, _, rfl, by omega⟩
                    case measure => simp [intOf]; omega
                · have h3b : ((k : Int) % 3 == 1) = false := by simpa using h3
                  replace h3 := Lib.hid h3
                  have hS6 := hS5'
                  clear hS5'
                  have hkx := hS6.keys
                  have hts6 := hS6.ts
                  have hlen6 := hS6.len
                  replace hS6 := Lib.hid hS6
                  go_wp2_with fail
                  refine (near_keys hN6.near (by have := congrArg List.length hkx; simp only [NS.keys, List.length_map] at this; omega)).mono ?_
                  rintro e w8 ⟨v8, rfl, hown8, hb8⟩
                  rw [hkx] at hown8
                  have hL8 := hL7.below hb8
                  have hN8 := hN6.below hb8
                  obtain ⟨a8, c8, rfl⟩ := (Reads.of_owns hown8).shape
                  replace hkx := Lib.hid hkx
                  replace hts6 := Lib.hid hts6
                  go_wp2_with fail
                  refine (same06_b (Reads.of_owns hown8) hL8.reads (by omega) (by omega)).mono ?_
                  rintro e w9 ⟨rfl, hb9⟩
                  have hN9 := hN8.below hb9
                  have hL9 := hL8.below hb9
                  clear hN6 hL7 hb8 hown8 hL8 hN8 hb9
                  go_wp2_with fail
                  refine (near_tickets hN9.near).mono ?_
                  rintro e w9 ⟨rfl, rfl⟩
                  rw [hts6.out]
                  go_wp2
                  go_roundw
                  case rel => exact ⟨k + 1, _, _, _, by omega, by go_num, hS6.out, hN9, hL9, _, _, rfl, by omega⟩
                  case measure => simp [intOf]; omega
              · have hPe : P = touch ks key := by rw [hP, pushed, if_neg (by rw [← hL]; exact hgt)]
                obtain rfl : L = P.length := by rw [hPe]; exact hL
                rw [← hPe] at hL6
                obtain ⟨a7, ha7⟩ : ∃ a, a = a6 := ⟨_, rfl⟩
                obtain ⟨c7, hc7'⟩ : ∃ a, a = c6 := ⟨_, rfl⟩
                subst ha7; subst hc7'
                have hL7 := hL6
                have hc7 := hcap6
                replace hP := Lib.hid hP
                clear hPe hL6 hL
                by_cases h3 : (k : Int) % 3 = 1
                · have h3b : ((k : Int) % 3 == 1) = true := by simpa using h3
                  replace h3 := Lib.hid h3
                  obtain ⟨a8, he8, hL8⟩ := hL7.part (l := 0) (h := P.length - 1) (by omega) (by omega) hc7
                  rw [Nat.sub_zero, Nat.sub_zero, List.drop_zero] at hL8
                  have hQ : P.filter (fun x => x ≠ key) = P.take (P.length - 1) := by rw [hP.out]; exact pushed_drop hlen0
                  have hr8 := fun x hx W => (strs_to a7 P.length c7 (P.length - 1) (by omega) x hx W).trans (congrArg (fun v => Result.ok v W) he8)
                  have hQl : (P.take (P.length - 1)).length = P.length - 1 := by rw [List.length_take]; omega
                  have hS6 := hS5'.drop hkN
                  rw [hQ] at hS6
                  generalize P.take (P.length - 1) = Q at *
                  have hc8 : Q.length ≤ c7 := by omega
                  rw [← hQl] at hL8 hr8
                  simp only [Nat.sub_zero] at hr8
                  by_cases h2 : 2 ≤ P.length
                  · have hr9 := fun W => hr8 ((P.length : Int) - 1) (by omega) W
                    have hg : (0 : Int) < (P.length : Int) - 1 := by omega
                    have hg' : (1 : Int) < (P.length : Int) := by omega
                    replace hr8 := Lib.hid hr8
                    replace hQ := Lib.hid hQ
                    replace hQl := Lib.hid hQl
                    replace hS6 := Lib.hid hS6
                    replace hS5' := Lib.hid hS5'
                    clear he8
                    go_wp2_with fail
                    refine (near_drop hN6.near key).mono ?_
                    rintro e w7 ⟨fp7, rfl, hn7, hw7⟩
                    have hN7 := hN6.step hn7 hw7
                    have hL7 := hL8.fr hw7.1 hw7.2
                    replace hN6 := hN7
                    replace hS6 := hS6.out
                    clear hn7 hw7 hL8 hN7 
                    generalize NS.drop s5 key = s6 at *
                    have hkx := hS6.keys
                    have hts6 := hS6.ts
                    have hlen6 := hS6.len
                    replace hS6 := Lib.hid hS6
                    go_wp2_with fail
                    refine (near_keys hN6.near (by have := congrArg List.length hkx; simp only [NS.keys, List.length_map] at this; omega)).mono ?_
                    rintro e w8 ⟨v8, rfl, hown8, hb8⟩
                    rw [hkx] at hown8
                    have hL8 := hL7.below hb8
                    have hN8 := hN6.below hb8
                    obtain ⟨a8, c8, rfl⟩ := (Reads.of_owns hown8).shape
                    replace hkx := Lib.hid hkx
                    replace hts6 := Lib.hid hts6
                    go_wp2_with fail
                    refine (same06_b (Reads.of_owns hown8) hL8.reads (by omega) (by omega)).mono ?_
                    rintro e w9 ⟨rfl, hb9⟩
                    have hN9 := hN8.below hb9
                    have hL9 := hL8.below hb9
                    clear hN6 hL7 hb8 hown8 hL8 hN8 hb9
                    go_wp2_with fail
                    refine (near_tickets hN9.near).mono ?_
                    rintro e w9 ⟨rfl, rfl⟩
                    rw [hts6.out]
                    go_wp2
                    go_roundw
                    case rel => exact ⟨k + 1, _, _, _, by omega, by go_num, hS6.out, hN9, hL9, _, _, rfl, by omega⟩
                    case measure => simp [intOf]; omega
                  · have hr9 := fun W => hr8 0 (by omega) W
                    have hg : ¬ ((0 : Int) < (P.length : Int) - 1) := by omega
                    have hg' : ¬ ((1 : Int) < (P.length : Int)) := by omega
                    have hP1 : P.length ≤ 1 := by omega
                    replace h2 := Lib.hid h2
                    replace hr8 := Lib.hid hr8
                    replace hQ := Lib.hid hQ
                    replace hQl := Lib.hid hQl
                    replace hS6 := Lib.hid hS6
                    replace hS5' := Lib.hid hS5'
                    clear he8
                    go_wp2_with fail
                    refine (near_drop hN6.near key).mono ?_
                    rintro e w7 ⟨fp7, rfl, hn7, hw7⟩
                    have hN7 := hN6.step hn7 hw7
                    have hL7 := hL8.fr hw7.1 hw7.2
                    replace hN6 := hN7
                    replace hS6 := hS6.out
                    clear hn7 hw7 hL8 hN7 
                    generalize NS.drop s5 key = s6 at *
                    have hkx := hS6.keys
                    have hts6 := hS6.ts
                    have hlen6 := hS6.len
                    replace hS6 := Lib.hid hS6
                    go_wp2_with fail
                    refine (near_keys hN6.near (by have := congrArg List.length hkx; simp only [NS.keys, List.length_map] at this; omega)).mono ?_
                    rintro e w8 ⟨v8, rfl, hown8, hb8⟩
                    rw [hkx] at hown8
                    have hL8 := hL7.below hb8
                    have hN8 := hN6.below hb8
                    obtain ⟨a8, c8, rfl⟩ := (Reads.of_owns hown8).shape
                    replace hkx := Lib.hid hkx
                    replace hts6 := Lib.hid hts6
                    go_wp2_with fail
                    refine (same06_b (Reads.of_owns hown8) hL8.reads (by omega) (by omega)).mono ?_
                    rintro e w9 ⟨rfl, hb9⟩
                    have hN9 := hN8.below hb9
                    have hL9 := hL8.below hb9
                    clear hN6 hL7 hb8 hown8 hL8 hN8 hb9
                    go_wp2_with fail
                    refine (near_tickets hN9.near).mono ?_
                    rintro e w9 ⟨rfl, rfl⟩
                    rw [hts6.out]
                    go_wp2
                    go_roundw
                    case rel => exact ⟨k + 1, _, _, _, by omega, by go_num, hS6.out, hN9, hL9, _, _, rfl, by omega⟩
                    case measure => simp [intOf]; omega
                · have h3b : ((k : Int) % 3 == 1) = false := by simpa using h3
                  replace h3 := Lib.hid h3
                  have hS6 := hS5'
                  clear hS5'
                  have hkx := hS6.keys
                  have hts6 := hS6.ts
                  have hlen6 := hS6.len
                  replace hS6 := Lib.hid hS6
                  go_wp2_with fail
                  refine (near_keys hN6.near (by have := congrArg List.length hkx; simp only [NS.keys, List.length_map] at this; omega)).mono ?_
                  rintro e w8 ⟨v8, rfl, hown8, hb8⟩
                  rw [hkx] at hown8
                  have hL8 := hL7.below hb8
                  have hN8 := hN6.below hb8
                  obtain ⟨a8, c8, rfl⟩ := (Reads.of_owns hown8).shape
                  replace hkx := Lib.hid hkx
                  replace hts6 := Lib.hid hts6
                  go_wp2_with fail
                  refine (same06_b (Reads.of_owns hown8) hL8.reads (by omega) (by omega)).mono ?_
                  rintro e w9 ⟨rfl, hb9⟩
                  have hN9 := hN8.below hb9
                  have hL9 := hL8.below hb9
                  clear hN6 hL7 hb8 hown8 hL8 hN8 hb9
                  go_wp2_with fail
                  refine (near_tickets hN9.near).mono ?_
                  rintro e w9 ⟨rfl, rfl⟩
                  rw [hts6.out]
                  go_wp2
                  go_roundw
                  case rel => exact ⟨k + 1, _, _, _, by omega, by go_num, hS6.out, hN9, hL9, _, _, rfl, by omega⟩
                  case measure => simp [intOf]; omega
      · have hf := hSL.fills
        have rv6 : ∀ c, RV c (cells6 (V.mk 6 ⟨#[]⟩ 0 0 false []).kind (V.mk 6 ⟨#[]⟩ 0 0 false []).text (V.mk 6 ⟨#[]⟩ 0 0 false []).int (V.mk 6 ⟨#[]⟩ 0 0 false []).real (V.mk 6 ⟨#[]⟩ 0 0 false []).flag none (V.mk 6 ⟨#[]⟩ 0 0 false []).list.length 0) (V.mk 6 ⟨#[]⟩ 0 0 false []) := fun c => RV.leaf _ _ _ _ _ _ _ _
        have hend := hSL.end_ (V.mk 6 ⟨#[]⟩ 0 0 false [])
        replace hend := Lib.hid hend
        replace hSL := Lib.hid hSL
        replace hf := Lib.hid hf
        clear hx lx hl
        go_wp2_with fail
        refine (near_fill hNH.near 1 (v := .mk 6 ⟨#[]⟩ 0 0 false []) (a := none) (cap := 0) (rv6 _) (by simp [V.count, V.countL])).mono ?_
        rintro e w5 ⟨fp5, rfl, hn5, hw5⟩
        have hN5 := hNH.step hn5 hw5
        rw [hf.out]
        clear hNH hn5 hw5 rv6
        by_cases h0 : most = 0
        · have e1 : decide (most ≠ 0) = false := by simp [h0]
          have e2 : ¬ 0 < most := by omega
          have e3 : decide (0 < most) = false := by simpa using e2
          rw [e1]
          replace h0 := Lib.hid h0
          clear e1
          go_wp2_with fail
          refine (near_tickets hN5.near).mono ?_
          rintro e w6 ⟨rfl, rfl⟩
          rw [hend.out]
          go_wp2
          go_ret
          exact ⟨rfl, hN5.bel⟩
        · have e1 : decide (most ≠ 0) = true := by simp [h0]
          have e2 : 0 < most := by omega
          rw [e1]
          replace h0 := Lib.hid h0
          clear e1
          go_wp2_with fail
          refine (near_tickets hN5.near).mono ?_
          rintro e w6 ⟨rfl, rfl⟩
          rw [hend.out]
          go_wp2
          go_ret
          exact ⟨rfl, hN5.bel⟩
end Go.Proofs.Ytlddjcfbapdjnaa
