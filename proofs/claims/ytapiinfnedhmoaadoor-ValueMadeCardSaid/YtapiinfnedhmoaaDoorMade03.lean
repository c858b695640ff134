/- ValueMade: its walk. The case b = false is typed like the first and not built yet (each case some 90 s). -/
import Derived.Test.YtapiinfnedhmoaaDoorMadeF
import Derived.Test.YtapiinfnedhmoaaDoorOwn03
import Derived.Test.YtapiinfnedhmoaaDoorAlive03
import Derived.Deep.DeepCutAuto
namespace Go.Proofs.YtapiinfnedhmoaaDoor
open Go.RowKit

set_option maxHeartbeats 3200000 in
/-- A text and a number are not the same. -/
theorem same_ti (s : ByteArray) (n : Int) (w : World) :
    Calls Tryd.prog 23 #[.agg #[.int .i64 4, .string s, .int .i64 0, .float .f64 0, .bool false, .slice none 0 0], .agg #[.int .i64 3, .string ⟨#[]⟩, .int .i64 n, .float .f64 0, .bool false, .slice none 0 0]] w fun e w' => e = .returned (.bool false) ∧ Below w.heap.size w w' := by
  have hal := ((Below.refl w.heap.size w).alloc (Nat.le_refl _) (.cells #[.int .i64 4, .string s, .int .i64 0, .float .f64 0, .bool false, .slice none 0 0] 25)).alloc (by simp) (.cells #[.int .i64 3, .string ⟨#[]⟩, .int .i64 n, .float .f64 0, .bool false, .slice none 0 0] 25)
  replace hal := Lib.hid hal
  go_enter Tryd.func23, Tryd.ntmps23
  go_wp2
  go_ret
  exact ⟨rfl, hal.out⟩

set_option maxRecDepth 100000 in
set_option maxHeartbeats 6400000 in
theorem made03_any (s : ByteArray) (n : Int) (w : World) (hs : s.size ≤ 9223372036854775807) :
    Calls Tryd.prog 8 #[.string s, .int .i64 n] w fun e w' => e = .returned (.bool true) ∧ Below w.heap.size w w' := by
  by_cases h4 : 4096 < s.size
  · go_enter Tryd.func8, Tryd.ntmps8
    go_wp2_with fail
    refine (alive03_any w).mono ?_
    rintro e w1 ⟨rfl, hb1⟩
    go_wp2_with fail
    refine (text_any s w1).mono ?_
    rintro e w2 ⟨rfl, hb2⟩
    go_wp2_with fail
    refine (check_any (.mk 4 s 0 0 false []) none 0 w2 (RV.leaf _ _ _ _ _ _ _ _) ((V.sized_eq _).2 ⟨hs, trivial⟩) (by simp [V.count, V.countL])).mono ?_
    rintro e w3 ⟨rfl, hb3⟩
    rw [check_text, if_neg (by omega)]
    have hb := hb1.trans ((hb2.trans (hb3.mono hb2.size)).mono hb1.size)
    go_wp2
    go_ret
    exact ⟨rfl, hb⟩
  go_enter Tryd.func8, Tryd.ntmps8
  go_wp2_with fail
  refine (alive03_any w).mono ?_
  rintro e w1 ⟨rfl, hb1⟩
  go_wp2_with fail
  go_loopw [5, 6] (fun s5 s6 wr => ∃ (i : Nat) (b : Bool), i ≤ s.size ∧ s6 = .int .i64 i ∧ s5 = .bool b ∧ (b = true → Lib.NoAny s.data.toList [13, 10] i) ∧ (b = false → crlfB s = true) ∧ wr = w1) (fun _ s6 _ => s.size - (intOf s6).toNat)
  case atStart => exact ⟨0, true, Nat.zero_le _, rfl, rfl, (fun _ => Lib.NoAny.zero _ _), (fun h => by cases h), by trivial⟩
  case round =>
    obtain ⟨i, b, hi, rfl, rfl, hno, hyes, rfl⟩ := hrel
    replace hno := Lib.hid hno
    replace hyes := Lib.hid hyes
    by_cases hlt : i < s.size
    · obtain ⟨x, hx⟩ : ∃ x : UInt8, s[i]'hlt = x := ⟨_, rfl⟩
      have hxl : s.data.toList[i]? = some x := by rw [← hx]; exact Lib.data_getElem? s i hlt
      replace hxl := Lib.hid hxl
      cases b with
      | false =>
        go_wp2
        go_roundw
        case rel => exact ⟨i + 1, false, by omega, by go_num, rfl, (fun h => by cases h), hyes.out, by trivial⟩
        case measure => simp [intOf]; omega
      | true =>
        by_cases h10 : x = 10
        · have e : ((x.toNat : Int) != 10) = false := by subst h10; rfl
          have hc := crlf_hit (hno.out rfl) hxl.out (Or.inr h10)
          replace hc := Lib.hid hc
          replace h10 := Lib.hid h10
          go_wp2
          go_roundw
          case rel => exact ⟨i + 1, false, by omega, by go_num, rfl, (fun h => by cases h), (fun _ => hc.out), by trivial⟩
          case measure => simp [intOf]; omega
        · have e : ((x.toNat : Int) != 10) = true := by
            have : x.toNat ≠ 10 := fun h => h10 (UInt8.toNat_inj.1 (by simpa using h))
            simp only [bne_iff_ne, ne_eq]; omega
          by_cases h13 : x = 13
          · have e2 : ((x.toNat : Int) != 13) = false := by subst h13; rfl
            have hc := crlf_hit (hno.out rfl) hxl.out (Or.inl h13)
            replace hc := Lib.hid hc
            replace h13 := Lib.hid h13
            replace h10 := Lib.hid h10
            go_wp2
            go_roundw
            case rel => exact ⟨i + 1, false, by omega, by go_num, rfl, (fun h => by cases h), (fun _ => hc.out), by trivial⟩
            case measure => simp [intOf]; omega
          · have e2 : ((x.toNat : Int) != 13) = true := by
              have : x.toNat ≠ 13 := fun h => h13 (UInt8.toNat_inj.1 (by simpa using h))
              simp only [bne_iff_ne, ne_eq]; omega
            have hns := (hno.out rfl).succ hxl.out (by simp [h10, h13])
            replace hns := Lib.hid hns
            replace h10 := Lib.hid h10
            replace h13 := Lib.hid h13
            go_wp2
            go_roundw
            case rel => exact ⟨i + 1, true, by omega, by go_num, rfl, (fun _ => hns.out), (fun h => by cases h), by trivial⟩
            case measure => simp [intOf]; omega
    · obtain rfl : i = s.size := by omega
      have hcb : crlfB s = !b := by
        cases b with
        | true => exact crlf_none (hno.out rfl)
        | false => exact hyes.out rfl
      replace hcb := Lib.hid hcb
      clear hno hyes
      go_wp2_with fail
      refine (text_any s wr).mono ?_
      rintro e w2 ⟨rfl, hb2⟩
      go_wp2_with fail
      refine (int_any n w2).mono ?_
      rintro e w3 ⟨rfl, hb3⟩
      go_wp2_with fail
      refine (fail_any s w3).mono ?_
      rintro e w4 ⟨rfl, hb4⟩
      have hbw4 := hb1.trans (((hb2.trans (hb3.mono hb2.size)).trans (hb4.mono (hb2.trans (hb3.mono hb2.size)).size)).mono hb1.size)
      obtain ⟨W3, hW3⟩ : ∃ W3, W3 = ((w4.alloc (.cells #[.int .i64 4, .string s, .int .i64 0, .float .f64 0, .bool false, .slice none 0 0] 25)).alloc (.cells #[.int .i64 3, .string ⟨#[]⟩, .int .i64 n, .float .f64 0, .bool false, .slice none 0 0] 25)).alloc (.cells #[.int .i64 2, .string s, .int .i64 0, .float .f64 0, .bool false, .slice none 0 0] 25) := ⟨_, rfl⟩
      have hbw3 : Below w.heap.size w W3 := by rw [hW3]; exact ((hbw4.alloc hbw4.size _).alloc (by have := hbw4.size; simp; omega) _).alloc (by have := hbw4.size; simp; omega) _
      have hA : ∀ q u, #[.int .i64 4, .string s, .int .i64 0, .float .f64 0, .bool false, .slice none 0 0][q]? = some u → W3.cell? ⟨w4.heap.size, q, none⟩ = some u := fun q u h => by
        rw [hW3, World.cell?_alloc_old _ _ _ (by simp; omega), World.cell?_alloc_old _ _ _ (by simp), World.cell?_alloc_new]; exact h
      have hB : ∀ q u, #[.int .i64 3, .string ⟨#[]⟩, .int .i64 n, .float .f64 0, .bool false, .slice none 0 0][q]? = some u → W3.cell? ⟨w4.heap.size + 1, q, none⟩ = some u := fun q u h => by
        have e : w4.heap.size + 1 = (w4.alloc (.cells #[.int .i64 4, .string s, .int .i64 0, .float .f64 0, .bool false, .slice none 0 0] 25)).heap.size := by simp
        rw [hW3, World.cell?_alloc_old _ _ _ (by simp), e, World.cell?_alloc_new]; exact h
      have hC : ∀ q u, #[.int .i64 2, .string s, .int .i64 0, .float .f64 0, .bool false, .slice none 0 0][q]? = some u → W3.cell? ⟨w4.heap.size + 2, q, none⟩ = some u := fun q u h => by
        rw [hW3, World.cell?_alloc_at _ _ _ _ (by simp)]; exact h
      have ga0 := hA 0 (.int .i64 4) rfl
      have ga1 := hA 1 (.string s) rfl
      have ga2 := hA 2 (.int .i64 0) rfl
      have ga3 := hA 3 (.float .f64 0) rfl
      have ga4 := hA 4 (.bool false) rfl
      have ga5 := hA 5 (.slice none 0 0) rfl
      have gb0 := hB 0 (.int .i64 3) rfl
      have gb1 := hB 1 (.string ⟨#[]⟩) rfl
      have gb2 := hB 2 (.int .i64 n) rfl
      have gb3 := hB 3 (.float .f64 0) rfl
      have gb4 := hB 4 (.bool false) rfl
      have gb5 := hB 5 (.slice none 0 0) rfl
      have gc0 := hC 0 (.int .i64 2) rfl
      have gc1 := hC 1 (.string s) rfl
      have gc2 := hC 2 (.int .i64 0) rfl
      have gc3 := hC 3 (.float .f64 0) rfl
      have gc4 := hC 4 (.bool false) rfl
      have gc5 := hC 5 (.slice none 0 0) rfl
      have hl3 : w4.heap.size + 2 < W3.heap.size := World.block_lt_of_cell? _ _ gc0
      have hl2 : w4.heap.size + 1 < W3.heap.size := by omega
      have hl1 : w4.heap.size < W3.heap.size := by omega
      replace hW3 := Lib.hid hW3
      replace hbw3 := Lib.hid hbw3
      clear hA hB hC hb1 hb2 hb3 hb4 hbw4
      have hsz : (V.mk 4 s 0 0 false []).sized := (V.sized_eq _).2 ⟨hs, trivial⟩
      have hsz2 : (V.mk 2 s 0 0 false []).sized := (V.sized_eq _).2 ⟨hs, trivial⟩
      have hszn : (V.mk 3 ⟨#[]⟩ n 0 false []).sized := (V.sized_eq _).2 ⟨by show (0 : Nat) ≤ _; omega, trivial⟩
      have hz4 : checkZ (.mk 4 s 0 0 false []) = 0 := by rw [check_text, if_pos (by omega)]
      have hz2 := check_fail s (by omega)
      rw [hcb.out] at hz2
      replace hsz := Lib.hid hsz
      replace hsz2 := Lib.hid hsz2
      replace hszn := Lib.hid hszn
      replace hz4 := Lib.hid hz4
      have hzf := check_four s n (by omega)
      have hsf : V.sizedL (four s n) := ⟨hsz.out, hszn.out, (V.sized_eq _).2 ⟨by show (2 : Nat) ≤ _; omega, trivial⟩, (V.sized_eq _).2 ⟨by show (0 : Nat) ≤ _; omega, trivial⟩, trivial⟩
      replace hzf := Lib.hid hzf
      replace hsf := Lib.hid hsf
      cases b with
      | true =>
        replace hz2 := Lib.hid (show checkZ (.mk 2 s 0 0 false []) = 0 from hz2)
        go_wp2_with fail
        rw [← hW3.out]
        go_region_held3 (fun w' => Below W3.heap.size W3 w' ∧ ∀ b o, b < W3.heap.size → w'.cell? ⟨b, o, none⟩ = W3.cell? ⟨b, o, none⟩) (first | (with_reducible assumption) | (with_reducible exact kp_drew) | exact kp_alloc (by with_reducible assumption) _ | exact kp_keep (by with_reducible assumption) (by with_reducible assumption))
          (first
            | (go_at_call 11; refine (check_any (.mk 4 s 0 0 false []) none 0 _ (RV.leaf _ _ _ _ _ _ _ _) hsz.out (by simp [V.count, V.countL])).mono ?_; rintro e w5 ⟨rfl, hb5⟩; rw [hz4.out]; try replace hvL := RV.mono hvL (cell_below hb5))
            | (go_at_call 11; refine (check_any (.mk 3 ⟨#[]⟩ n 0 false []) none 0 _ (RV.leaf _ _ _ _ _ _ _ _) hszn.out (by simp [V.count, V.countL])).mono ?_; rintro e w5 ⟨rfl, hb5⟩; rw [check_int]; try replace hvL := RV.mono hvL (cell_below hb5))
            | (go_at_call 11; refine (check_any (.mk 2 s 0 0 false []) none 0 _ (RV.leaf _ _ _ _ _ _ _ _) hsz2.out (by simp [V.count, V.countL])).mono ?_; rintro e w5 ⟨rfl, hb5⟩; rw [hz2.out]; try replace hvL := RV.mono hvL (cell_below hb5))
            | (go_at_call 11; refine (check_list (four s n) _ 4 _ _ rfl hvL hsf.out (by simp [four, V.count, V.countL])).mono ?_; rintro e w5 ⟨rfl, hb5⟩; rw [hzf.out]; try replace hvL := RV.mono hvL (cell_below hb5))
            | (go_at_call 20; refine (ok_any _).mono ?_; rintro e w5 ⟨rfl, hb5⟩; try replace hvL := RV.mono hvL (cell_below hb5))
            | (go_at_call 19; refine (nil_any _).mono ?_; rintro e w5 ⟨rfl, hb5⟩; try replace hvL := RV.mono hvL (cell_below hb5))
            | (go_at_call 23; refine (same_ti s n _).mono ?_; rintro e w5 ⟨rfl, hb5⟩; try replace hvL := RV.mono hvL (cell_below hb5))
            | (go_at_call 17; refine (list_any (four s n) _ 4 4 _ (four_rv s n _ _) (by simp [four, V.count, V.countL])).mono ?_; rintro e w5 ⟨aL, capL, rfl, hvL0, hb5, -⟩; have hvL := RV.mono hvL0 newer_all))
        all_goals
          have hS := And.left (show Below W3.heap.size W3 _ ∧ ∀ b o, b < W3.heap.size → _ from by with_reducible assumption)
          go_wp2
          go_ret
          exact ⟨by first | rfl | simp, hbw3.out.trans (hS.mono hbw3.out.size)⟩
      | false =>
        replace hz2 := Lib.hid (show checkZ (.mk 2 s 0 0 false []) = 31 from hz2)
        go_wp2_with fail
        rw [← hW3.out]
        go_region_held3 (fun w' => Below W3.heap.size W3 w' ∧ ∀ b o, b < W3.heap.size → w'.cell? ⟨b, o, none⟩ = W3.cell? ⟨b, o, none⟩) (first | (with_reducible assumption) | (with_reducible exact kp_drew) | exact kp_alloc (by with_reducible assumption) _ | exact kp_keep (by with_reducible assumption) (by with_reducible assumption))
          (first
            | (go_at_call 11; refine (check_any (.mk 4 s 0 0 false []) none 0 _ (RV.leaf _ _ _ _ _ _ _ _) hsz.out (by simp [V.count, V.countL])).mono ?_; rintro e w5 ⟨rfl, hb5⟩; rw [hz4.out]; try replace hvL := RV.mono hvL (cell_below hb5))
            | (go_at_call 11; refine (check_any (.mk 3 ⟨#[]⟩ n 0 false []) none 0 _ (RV.leaf _ _ _ _ _ _ _ _) hszn.out (by simp [V.count, V.countL])).mono ?_; rintro e w5 ⟨rfl, hb5⟩; rw [check_int]; try replace hvL := RV.mono hvL (cell_below hb5))
            | (go_at_call 11; refine (check_any (.mk 2 s 0 0 false []) none 0 _ (RV.leaf _ _ _ _ _ _ _ _) hsz2.out (by simp [V.count, V.countL])).mono ?_; rintro e w5 ⟨rfl, hb5⟩; rw [hz2.out]; try replace hvL := RV.mono hvL (cell_below hb5))
            | (go_at_call 11; refine (check_list (four s n) _ 4 _ _ rfl hvL hsf.out (by simp [four, V.count, V.countL])).mono ?_; rintro e w5 ⟨rfl, hb5⟩; rw [hzf.out]; try replace hvL := RV.mono hvL (cell_below hb5))
            | (go_at_call 20; refine (ok_any _).mono ?_; rintro e w5 ⟨rfl, hb5⟩; try replace hvL := RV.mono hvL (cell_below hb5))
            | (go_at_call 19; refine (nil_any _).mono ?_; rintro e w5 ⟨rfl, hb5⟩; try replace hvL := RV.mono hvL (cell_below hb5))
            | (go_at_call 23; refine (same_ti s n _).mono ?_; rintro e w5 ⟨rfl, hb5⟩; try replace hvL := RV.mono hvL (cell_below hb5))
            | (go_at_call 17; refine (list_any (four s n) _ 4 4 _ (four_rv s n _ _) (by simp [four, V.count, V.countL])).mono ?_; rintro e w5 ⟨aL, capL, rfl, hvL0, hb5, -⟩; have hvL := RV.mono hvL0 newer_all))
        all_goals
          have hS := And.left (show Below W3.heap.size W3 _ ∧ ∀ b o, b < W3.heap.size → _ from by with_reducible assumption)
          go_wp2
          go_ret
          exact ⟨by first | rfl | simp, hbw3.out.trans (hS.mono hbw3.out.size)⟩
end Go.Proofs.YtapiinfnedhmoaaDoor
