/- real.Parse at the digits of a whole number. -/
import Derived.Test.YtgpfjhligiapdaaGreatDoorJ3
import Derived.Test.YtgpfjhligiapdaaGreatDoorAtofM
import Derived.Test.YtgpfjhligiapdaaGreatDoorRParse
namespace Go.Proofs.YtgpfjhligiapdaaGreatDoor
open Go.RowKit

/-- strconv.ParseFloat answers what atof64 does, where that is no error (and the world may have grown). -/
theorem sparse_okB {s : ByteArray} {r : Nat} {w : World} (h : Calls Tryz.prog 52 #[.string s] w fun e w' => e = .returned (.tuple #[.float .f64 r, .int .i64 (s.size : Int), .nilIface]) ∧ Below w.heap.size w w') :
    Calls Tryz.prog 23 #[.string s, .int .i64 64] w fun e w' => e = .returned (.tuple #[.float .f64 r, .nilIface]) ∧ Below w.heap.size w w' := by
  have h2 : Calls Tryz.prog 42 #[.string s, .int .i64 64] w fun e w' => e = .returned (.tuple #[.float .f64 r, .int .i64 (s.size : Int), .nilIface]) ∧ Below w.heap.size w w' := by
    replace h := Lib.hid h
    go_enter Tryz.func42, Tryz.ntmps42
    go_wp2_with fail
    refine h.out.mono ?_
    rintro e w' ⟨rfl, hww⟩
    go_wp2
    exact bodyPost_ret (v := .tuple #[.float .f64 r, .int .i64 (s.size : Int), .nilIface]) (by simp [results, Tryz.results42, go_sem]) rfl ⟨rfl, hww⟩
  have h3 : Calls Tryz.prog 35 #[.string s, .int .i64 64] w fun e w' => e = .returned (.tuple #[.float .f64 r, .nilIface]) ∧ Below w.heap.size w w' := by
    replace h2 := Lib.hid h2
    clear h
    have hbs : ((s.size : Int) != (s.size : Int)) = false := by simp
    go_enter Tryz.func35, Tryz.ntmps35
    go_wp2_with fail
    refine h2.out.mono ?_
    rintro e w' ⟨rfl, hww⟩
    go_wp2
    go_ret2
    exact ⟨rfl, hww⟩
  replace h3 := Lib.hid h3
  clear h h2
  go_enter Tryz.func23, Tryz.ntmps23
  go_wp2_with fail
  refine h3.out.mono ?_
  rintro e w' ⟨rfl, hww⟩
  go_wp2
  go_ret2
  exact ⟨rfl, hww⟩
set_option maxRecDepth 100000 in
set_option maxHeartbeats 1600000 in
theorem parse_numB {s : ByteArray} {neg : Bool} {c : UInt8} {l : List UInt8} {r : Nat} {w : World} (h : s.data.toList = (if neg then [45] else []) ++ c :: l) (hc : isD c = true) (hs : s.size ≤ 64) (hr : rightL s.data.toList = true)
    (hp : ∀ w', Below w.heap.size w w' → Calls Tryz.prog 23 #[.string s, .int .i64 64] w' fun e w'' => e = .returned (.tuple #[.float .f64 r, .nilIface]) ∧ Below w'.heap.size w' w'') :
    Calls Tryz.prog 10 #[.string s] w fun e w' => e = .returned (.tuple #[.float .f64 r, .int .i64 0]) ∧ Below w.heap.size w w' := by
  obtain ⟨k1, k2, k3⟩ := num_head h hc
  have hra := right_any (s := s) (by omega) w
  rw [hr] at hra
  have hsz : ¬ (64 : Int) < (s.size : Int) := by omega
  replace hra := Lib.hid hra
  replace hp := Lib.hid hp
  clear h hc hr
  go_enter Tryz.func10, Tryz.ntmps10
  go_wp2_with fail
  refine hra.out.mono ?_
  rintro e w1 ⟨rfl, hb⟩
  have hp1 := hp.out w1 hb
  replace hp1 := Lib.hid hp1
  go_wp2_with fail
  refine hp1.out.mono ?_
  rintro e w2 ⟨rfl, hww⟩
  go_wp2
  go_ret2
  exact ⟨rfl, hb.trans (hww.mono hb.size)⟩
theorem whole_mant {n : Nat} (hn : 0 < n) (h : Lib.nDigits n ≤ 19) : mantF (Lib.decDigits n) = n ∧ truncF (Lib.decDigits n) = false ∧ ndF (Lib.decDigits n) = Lib.nDigits n := by
  unfold mantF truncF ndF
  rw [dec_strip hn, List.take_of_length_le (by rw [Lib.decDigits_length]; exact h), dec_val, List.drop_eq_nil_of_le (by rw [Lib.decDigits_length]; exact h), Lib.decDigits_length]
  exact ⟨rfl, rfl, rfl⟩
theorem dec_cons (n : Nat) : ∃ c l, Lib.decDigits n = c :: l ∧ isD c = true := by
  cases h : Lib.decDigits n with
  | nil => exact absurd h (dec_nil n)
  | cons c l => exact ⟨c, l, rfl, dec_isD n c (by rw [h]; exact List.mem_cons_self ..)⟩
theorem whole_form {s : ByteArray} {neg : Bool} {n : Nat} (hs : s.data.toList = signL neg ++ Lib.decDigits n) (h : Lib.nDigits n ≤ 19) : FTxt s neg false (Lib.decDigits n) (Lib.nDigits n) 0 := by
  obtain ⟨c, l, hcl, hc⟩ := dec_cons n
  refine ⟨⟨c, l, [], ?_, hc, ?_, .none, ?_⟩, ?_, dec_nil n⟩
  · rw [hs, hcl]; rfl
  · rw [← hcl]
    have := scanM_digits (D := Lib.decDigits n) (l := []) (d := false) (L := []) (m := 0) (dec_isD n)
    rw [List.append_nil] at this
    rw [this, scanM, List.nil_append, Nat.zero_add, Lib.decDigits_length]
  · intro b hb
    rw [← hcl] at hb
    exact .inl (dec_isD n b hb)
  · rw [size_list, hs, List.length_append, Lib.decDigits_length]
    cases neg <;> simp [signL] <;> omega
theorem nD_all : ∀ {l : List UInt8}, (∀ c ∈ l, isD c = true) → nD l = l.length
  | [], _ => rfl
  | c :: l, h => by
    unfold nD
    rw [List.takeWhile_cons_of_pos (h c (List.mem_cons_self ..)), List.length_cons, List.length_cons]
    congr 1
    exact nD_all (fun x hx => h x (List.mem_cons_of_mem _ hx))
theorem whole_right (neg : Bool) (n : Nat) : rightL (signL neg ++ Lib.decDigits n) = true := by
  obtain ⟨c, l, hcl, hc⟩ := dec_cons n
  have h45 : ¬ c ∈ [45] := fun h => by
    rw [List.mem_singleton] at h
    rw [h] at hc; exact absurd hc (by decide)
  have ha : afterL [45] (signL neg ++ Lib.decDigits n) = Lib.decDigits n := by
    rw [hcl]
    cases neg
    · exact afterL_neg h45
    · exact afterL_pos (by decide)
  unfold rightL
  dsimp only
  rw [ha, nD_all (dec_isD n), List.drop_length]
  have : 0 < (Lib.decDigits n).length := by rw [hcl]; simp
  rw [decide_eq_true this]
  rfl
/-- A WHOLE NUMBER'S DIGITS ARE READ AS THAT NUMBER. -/
theorem parse_whole {s : ByteArray} {neg : Bool} {n r : Nat} (hn : 0 < n) (hn2 : n < 10000000000000000) (hs : s.data.toList = signL neg ++ Lib.decDigits n) (hrv : rv r = n * 2 ^ 1074) (hr : r < 9218868437227405312) {w : World} (hP : Par w) (hF : Flo w) :
    Calls Tryz.prog 10 #[.string s] w fun e w' => e = .returned (.tuple #[.float .f64 (sgB neg + r), .int .i64 0]) ∧ Below w.heap.size w w' := by
  have h16 : Lib.nDigits n ≤ 16 := nDig_le 15 n (Nat.lt_of_lt_of_le hn2 (by decide))
  obtain ⟨c, l, hcl, hc⟩ := dec_cons n
  have hsz : s.size ≤ 64 := by
    rw [size_list, hs, List.length_append, Lib.decDigits_length]
    cases neg <;> simp [signL] <;> omega
  obtain ⟨m1, m2, m3⟩ := whole_mant hn (by omega)
  have hown := own_in hrv 0
  rw [Nat.pow_zero, Nat.mul_one] at hown
  refine parse_numB (neg := neg) (c := c) (l := l) (by rw [hs, hcl]; rfl) hc hsz (by rw [hs]; exact whole_right neg n) fun w' hb => ?_
  refine sparse_okB ?_
  have hx : expF false (Lib.decDigits n) (Lib.nDigits n) 0 = 0 := by
    unfold expF
    rw [m1, m3, if_neg (by omega), if_neg (by decide)]
    omega
  have hat := atof_mid (whole_form hs (by omega)) (by rw [m1]; exact hn) (by rw [m1]; omega) m2 hx (by decide) (by decide) (hP.below hb) (hF.below hb).pows
  refine hat.mono ?_
  rintro e w'' ⟨R, hI, he, hb2⟩
  rw [m1] at hI
  have hR : R = r := hI.uniq (Nat.pow_pos (by decide)) hown
  subst hR
  have hne : ¬ R = 9218868437227405312 := by clear hrv; omega
  rw [Nat.min_eq_left (Nat.le_of_lt hr)] at he
  unfold rngErr at he
  rw [if_neg hne] at he
  exact ⟨he, hb2⟩
end Go.Proofs.YtgpfjhligiapdaaGreatDoor
