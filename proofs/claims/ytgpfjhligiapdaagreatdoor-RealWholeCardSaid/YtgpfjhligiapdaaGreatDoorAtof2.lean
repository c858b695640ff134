/- ParseFloat: nought; numbers beyond all. -/
import Derived.Test.YtgpfjhligiapdaaGreatDoorAtof
namespace Go.Proofs.YtgpfjhligiapdaaGreatDoor
open Go.RowKit

set_option maxRecDepth 100000 in
set_option maxHeartbeats 1600000 in
/-- Nought, with its sign. -/
theorem atof_zero {s : ByteArray} {neg d : Bool} {L : List UInt8} {m : Nat} {x : Int} (h : FTxt s neg d L m x) (h0 : mantF L = 0) {w : World} (hP : Par w) :
    Calls Tryz.prog 52 #[.string s] w fun e w' => e = .returned (.tuple #[.float .f64 (if neg then 9223372036854775808 else 0), .int .i64 (s.size : Int), .nilIface]) ∧ w' = w := by
  have hrf := readFloat_any h w
  obtain ⟨⟨c, body, rest, hs, hc, _⟩, hsz, _⟩ := h
  have hsp := special_num hs hc hsz w
  have hx : expF d L m x = 0 := by unfold expF; rw [if_pos h0]
  rw [h0, hx] at hrf
  have hopt := hP.opt
  have hb := bool264_any neg
  have hsz2 : (s.size : Int) ≤ 1000 := by omega
  have hf := ffrom_run
  have o1 : bits .or .u64 9223372036854775808 0 = 9223372036854775808 := by decide
  have o2 : bits .or .u64 0 0 = 0 := by decide
  have f1 : ∀ w, (callFunc 82 #[.int .u64 9223372036854775808]).run Tryz.prog w = .ok (.value (.float .f64 9223372036854775808)) w := fun w => ffrom_run 9223372036854775808 w
  have f2 : ∀ w, (callFunc 82 #[.int .u64 0]).run Tryz.prog w = .ok (.value (.float .f64 0)) w := fun w => ffrom_run 0 w
  obtain ⟨tr, htr⟩ : ∃ tr, tr = truncF L := ⟨_, rfl⟩
  rw [← htr] at hrf
  replace hrf := Lib.hid hrf
  replace hsp := Lib.hid hsp
  replace hb := Lib.hid hb
  clear h0 hx hs hc htr hf
  cases neg
  all_goals
    go_enter Tryz.func52, Tryz.ntmps52
    go_wp2_with fail
    refine hsp.out.mono ?_
    rintro e w' ⟨rfl, hww⟩
    obtain rfl := hww.symm
    clear hww
    go_wp2_with fail
    refine hrf.out.mono ?_
    rintro e w' ⟨rfl, hww⟩
    obtain rfl := hww.symm
    clear hww
    go_wp2_with fail
    refine (hb.out _).mono ?_
    rintro e w' ⟨rfl, hww⟩
    obtain rfl := hww.symm
    clear hww
    go_wp2
  · exact bodyPost_ret (v := .tuple #[.float .f64 0, .int .i64 (s.size : Int), .nilIface]) (by simp [results, Tryz.results52, go_sem]) rfl ⟨rfl, rfl⟩
  · exact bodyPost_ret (v := .tuple #[.float .f64 9223372036854775808, .int .i64 (s.size : Int), .nilIface]) (by simp [results, Tryz.results52, go_sem]) rfl ⟨rfl, rfl⟩
set_option maxRecDepth 100000 in
set_option maxHeartbeats 1600000 in
/-- Beyond all numbers. -/
theorem atof_range {s : ByteArray} {d : Bool} {L : List UInt8} {m i : Nat} {x : Int} (h : FTxt s false d L m x) (h0 : 0 < mantF L) (hx : expF d L m x = (i : Int)) (hi : 310 < i) (hi2 : i ≤ 200000) {w : World} (hP : Par w) :
    Calls Tryz.prog 52 #[.string s] w fun e w' => e = .returned (.tuple #[.float .f64 9218868437227405312, .int .i64 (s.size : Int), .iface 64 (.int .i64 1)]) ∧ w' = w := by
  have hrf := readFloat_any h w
  obtain ⟨⟨c, body, rest, hs, hc, _⟩, hsz, _⟩ := h
  have hsp := special_num hs hc hsz w
  rw [hx] at hrf
  have hopt := hP.opt
  have hb := bool264_any false
  have hsz2 : (s.size : Int) ≤ 1000 := by omega
  have o2 : bits .or .u64 0 9218868437227405312 = 9218868437227405312 := by decide
  have f1 : ∀ w, (callFunc 82 #[.int .u64 9218868437227405312]).run Tryz.prog w = .ok (.value (.float .f64 9218868437227405312)) w := fun w => ffrom_run 9218868437227405312 w
  obtain ⟨tr, htr⟩ : ∃ tr, tr = truncF L := ⟨_, rfl⟩
  rw [← htr] at hrf
  obtain ⟨mt, hmt⟩ : ∃ mt, mantF L = mt := ⟨_, rfl⟩
  rw [hmt] at hrf h0
  have hm0 : ((mt : Int) == 0) = false := by simp; omega
  have hii : (310 : Int) < (i : Int) := by omega
  replace hrf := Lib.hid hrf
  replace hsp := Lib.hid hsp
  replace hb := Lib.hid hb
  clear hx hs hc htr hmt
  go_enter Tryz.func52, Tryz.ntmps52
  go_wp2_with fail
  refine hsp.out.mono ?_
  rintro e w' ⟨rfl, hww⟩
  obtain rfl := hww.symm
  clear hww
  go_wp2_with fail
  refine hrf.out.mono ?_
  rintro e w' ⟨rfl, hww⟩
  obtain rfl := hww.symm
  clear hww
  go_wp2_with fail
  refine (hb.out _).mono ?_
  rintro e w' ⟨rfl, hww⟩
  obtain rfl := hww.symm
  clear hww
  go_wp2
  exact bodyPost_ret (v := .tuple #[.float .f64 9218868437227405312, .int .i64 (s.size : Int), .iface 64 (.int .i64 1)]) (by simp [results, Tryz.results52, go_sem]) rfl ⟨rfl, rfl⟩
end Go.Proofs.YtgpfjhligiapdaaGreatDoor
