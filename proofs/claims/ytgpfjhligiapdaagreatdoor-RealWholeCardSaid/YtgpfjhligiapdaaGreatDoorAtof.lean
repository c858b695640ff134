/- internal/strconv.special; atof64 where a quotient of whole numbers is asked. -/
import Derived.Test.YtgpfjhligiapdaaGreatDoorReadF
import Derived.Test.YtgpfjhligiapdaaGreatDoorJ4
namespace Go.Proofs.YtgpfjhligiapdaaGreatDoor
open Go.RowKit

theorem ffrom_run (r : Nat) (w : World) : (callFunc 82 #[.int .u64 (r : Int)]).run Tryz.prog w = .ok (.value (.float .f64 r)) w := by kernel_rfl
/-- No letter of 'infinity' at a text that begins with a digit. -/
theorem common_digit {s : ByteArray} {c : UInt8} {l : List UInt8} (h : s.data.toList = c :: l) (hc : isD c = true) (hs : s.size ≤ 1000) (w : World) :
    Calls Tryz.prog 108 #[.string s, .string ⟨#[105, 110, 102, 105, 110, 105, 116, 121]⟩] w fun e w' => e = .returned (.int .i64 0) ∧ w' = w := by
  obtain ⟨hlt, hc0, _⟩ := drop_cons_at (s := s) (k := 0) (c := c) (l := l) h
  have hd : 48 ≤ c.toNat ∧ c.toNat ≤ 57 := by simp [isD] at hc; exact hc
  have h0 : (0 : Int) < (s.size : Int) := by omega
  have hsz : (s.size : Int) ≤ 1000 := by omega
  have k1 : ¬ (65 : Int) ≤ (c.toNat : Int) := by omega
  have k2 : ((c.toNat : Int) != 105) = true := by simp; omega
  have k3 : ¬ (c.toNat : Int) = 105 := by omega
  have k4 : ((⟨#[105, 110, 102, 105, 110, 105, 116, 121]⟩ : ByteArray)[0]'(by decide)).toNat = 105 := rfl
  obtain ⟨n, hn⟩ : ∃ n : Int, min (8 : Int) (s.size : Int) = n := ⟨_, rfl⟩
  have hn0 : 0 < n := by omega
  have hn1 : n ≤ 8 := by omega
  clear h hd hc
  go_enter Tryz.func108, Tryz.ntmps108
  go_wp2_with fail
  go_loop [6, 7] (fun i b => i = .int .i64 0) (fun _ _ => 0)
  case atStart => rfl
  case round =>
    obtain rfl := hrel
    go_wp2
    go_ret
    exact ⟨rfl, rfl⟩
set_option maxRecDepth 100000 in
set_option maxHeartbeats 1600000 in
theorem special_num {s : ByteArray} {neg : Bool} {c : UInt8} {l : List UInt8} (h : s.data.toList = (if neg then [45] else []) ++ c :: l) (hc : isD c = true) (hs : s.size ≤ 1000) (w : World) :
    Calls Tryz.prog 72 #[.string s] w fun e w' => e = .returned (.tuple #[.float .f64 0, .int .i64 0, .bool false]) ∧ w' = w := by
  have hd : 48 ≤ c.toNat ∧ c.toNat ≤ 57 := by simp [isD] at hc; exact hc
  have hsz : (s.size : Int) ≤ 1000 := by omega
  cases neg with
  | false =>
    have h' : s.data.toList.drop 0 = c :: l := h
    obtain ⟨hlt, hc0, _⟩ := drop_cons_at h'
    have h0 : (0 : Int) < (s.size : Int) := by omega
    have h00 : ((s.size : Int) == 0) = false := beq_eq_false_iff_ne.2 (by omega)
    have hse : ¬ s = ByteArray.empty := fun e => by rw [size_list, e] at hlt; exact absurd hlt (by decide)
    have k1 : ((c.toNat : Int) == 43) = false := by simp; omega
    have k2 : ((c.toNat : Int) == 45) = false := by simp; omega
    have k3 : ((c.toNat : Int) == 105) = false := by simp; omega
    have k4 : ((c.toNat : Int) == 73) = false := by simp; omega
    have k5 : ((c.toNat : Int) == 110) = false := by simp; omega
    have k6 : ((c.toNat : Int) == 78) = false := by simp; omega
    clear h h' hd hc
    go_enter Tryz.func72, Tryz.ntmps72
    go_wp2
    exact bodyPost_ret (v := .tuple #[.float .f64 0, .int .i64 0, .bool false]) (by simp [results, Tryz.results72, go_sem]) rfl ⟨rfl, rfl⟩
  | true =>
    have h' : s.data.toList.drop 0 = 45 :: c :: l := h
    obtain ⟨hlt, hc0, hd1⟩ := drop_cons_at h'
    have h0 : (0 : Int) < (s.size : Int) := by omega
    have h00 : ((s.size : Int) == 0) = false := beq_eq_false_iff_ne.2 (by omega)
    have hse : ¬ s = ByteArray.empty := fun e => by rw [size_list, e] at hlt; exact absurd hlt (by decide)
    obtain ⟨s1, hs1⟩ : ∃ s1, s.extract 1 s.size = s1 := ⟨_, rfl⟩
    have hs1l : s1.data.toList = c :: l := by
      rw [← hs1, ByteArray.data_extract, Array.toList_extract, List.extract_eq_take_drop]
      rw [Nat.zero_add] at hd1
      rw [hd1]
      refine List.take_of_length_le ?_
      have := congrArg List.length hd1
      rw [List.length_drop, ← size_list] at this
      omega
    have hs1n : s1.size ≤ 1000 := by
      rw [size_list, hs1l]
      have := congrArg List.length h
      rw [← size_list] at this
      simp at this ⊢; omega
    have hcm := common_digit hs1l hc hs1n w
    have h1i : (1 : Int) ≤ (s.size : Int) := by omega
    have e45 : ((45 : UInt8).toNat : Int) = 45 := rfl
    replace hcm := Lib.hid hcm
    clear h h' hd hc hs1l hs1n hd1
    go_enter Tryz.func72, Tryz.ntmps72
    go_wp2_with fail
    refine hcm.out.mono ?_
    rintro e w' ⟨rfl, hww⟩
    obtain rfl := hww.symm
    clear hww
    go_wp2
    exact bodyPost_ret (v := .tuple #[.float .f64 0, .int .i64 0, .bool false]) (by simp [results, Tryz.results72, go_sem]) rfl ⟨rfl, rfl⟩
set_option maxRecDepth 100000 in
set_option maxHeartbeats 1600000 in
/-- A quotient of whole numbers: -i is the power of ten. -/
theorem atof_neg {s : ByteArray} {neg d : Bool} {L : List UInt8} {m i z r : Nat} {x : Int} (h : FTxt s neg d L m x) (h0 : 0 < mantF L) (h1 : mantF L < 4503599627370496) (ht : truncF L = false) (hx : expF d L m x = -(i : Int)) (hi1 : 1 ≤ i) (hi : i ≤ 22)
    (hz1 : f10L[i]? = some z) (hr : floatBits .quo .f64 (fltN neg (mantF L)) z = some r) {w : World} (hP : Par w) :
    Calls Tryz.prog 52 #[.string s] w fun e w' => e = .returned (.tuple #[.float .f64 r, .int .i64 (s.size : Int), .nilIface]) ∧ w' = w := by
  have hrf := readFloat_any h w
  obtain ⟨⟨c, body, rest, hs, hc, _⟩, hsz, _⟩ := h
  have hsp := special_num hs hc hsz w
  rw [ht, hx] at hrf
  have hex := exact_neg (neg := neg) h1 hi1 hi hz1 hr hP
  have hopt := hP.opt
  obtain ⟨mt, hmt⟩ : ∃ mt, mantF L = mt := ⟨_, rfl⟩
  rw [hmt] at hrf hex h0 h1
  have hm0 : ((mt : Int) == 0) = false := by simp; omega
  have hb := bool264_any neg
  have hi2 : (i : Int) ≤ 22 := by omega
  have hsz2 : (s.size : Int) ≤ 1000 := by omega
  have hne : neg.toNat ≤ 1 := by cases neg <;> decide
  obtain ⟨nn, hnn⟩ : ∃ nn : Nat, nn = neg.toNat := ⟨_, rfl⟩
  rw [← hnn] at hne hb
  replace hrf := Lib.hid hrf
  replace hex := Lib.hid hex
  replace hsp := Lib.hid hsp
  replace hb := Lib.hid hb
  clear hr hz1 hx ht hs hc hmt hnn
  go_enter Tryz.func52, Tryz.ntmps52
  go_wp2_with fail
  refine hsp.out.mono ?_
  rintro e w' ⟨rfl, hww⟩
  obtain rfl := hww.symm
  clear hww
  go_wp2_with fail
  refine hrf.out.mono ?_
  rintro e w' ⟨rfl, hww⟩
  obtain rfl := hww.symm
  clear hww
  go_wp2_with fail
  refine (hb.out _).mono ?_
  rintro e w' ⟨rfl, hww⟩
  obtain rfl := hww.symm
  clear hww
  go_wp2_with fail
  refine hex.out.mono ?_
  rintro e w' ⟨rfl, hww⟩
  obtain rfl := hww.symm
  clear hww
  go_wp2
  exact bodyPost_ret (v := .tuple #[.float .f64 r, .int .i64 (s.size : Int), .nilIface]) (by simp [results, Tryz.results52, go_sem]) rfl ⟨rfl, rfl⟩
/-- strconv.ParseFloat answers what atof64 does, where that is no error. -/
theorem sparse_ok {s : ByteArray} {r : Nat} {w : World} (h : Calls Tryz.prog 52 #[.string s] w fun e w' => e = .returned (.tuple #[.float .f64 r, .int .i64 (s.size : Int), .nilIface]) ∧ w' = w) :
    Calls Tryz.prog 23 #[.string s, .int .i64 64] w fun e w' => e = .returned (.tuple #[.float .f64 r, .nilIface]) ∧ w' = w := by
  have h2 : Calls Tryz.prog 42 #[.string s, .int .i64 64] w fun e w' => e = .returned (.tuple #[.float .f64 r, .int .i64 (s.size : Int), .nilIface]) ∧ w' = w := by
    replace h := Lib.hid h
    go_enter Tryz.func42, Tryz.ntmps42
    go_wp2_with fail
    refine h.out.mono ?_
    rintro e w' ⟨rfl, hww⟩
    obtain rfl := hww.symm
    clear hww
    go_wp2
    exact bodyPost_ret (v := .tuple #[.float .f64 r, .int .i64 (s.size : Int), .nilIface]) (by simp [results, Tryz.results42, go_sem]) rfl ⟨rfl, rfl⟩
  have h3 : Calls Tryz.prog 35 #[.string s, .int .i64 64] w fun e w' => e = .returned (.tuple #[.float .f64 r, .nilIface]) ∧ w' = w := by
    replace h2 := Lib.hid h2
    clear h
    have hbs : ((s.size : Int) != (s.size : Int)) = false := by simp
    go_enter Tryz.func35, Tryz.ntmps35
    go_wp2_with fail
    refine h2.out.mono ?_
    rintro e w' ⟨rfl, hww⟩
    obtain rfl := hww.symm
    clear hww
    go_wp2
    go_ret2
    exact ⟨rfl, rfl⟩
  replace h3 := Lib.hid h3
  clear h h2
  go_enter Tryz.func23, Tryz.ntmps23
  go_wp2_with fail
  refine h3.out.mono ?_
  rintro e w' ⟨rfl, hww⟩
  obtain rfl := hww.symm
  clear hww
  go_wp2
  go_ret2
  exact ⟨rfl, rfl⟩
end Go.Proofs.YtgpfjhligiapdaaGreatDoor
