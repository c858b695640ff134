/- What is laid at the start for reading and writing floats. -/
import Derived.Test.YtgpfjhligiapdaaGreatDoorROrd
import Derived.Lib.SmallJoins

namespace Go.Proofs.YtgpfjhligiapdaaGreatDoor
open Go.ChangeShapes Go.WideShapes Go.ChangeAt Go.RowKit

theorem opt_of {W : World} (h : laidMet Tryz.prog [("internal/strconv.optimize", .lit (.bool true))] W) : W.cell? ⟨3, 0, none⟩ = some (.bool true) := by
  obtain ⟨ps, ⟨g', t', cs, fuel, p, q, hg', ht', hvar, hd, _, _⟩, _⟩ := h
  obtain rfl : 3 = g' := Option.some.inj ((show Tryz.prog.globalNamed "internal/strconv.optimize" = some 3 by kernel_rfl).symm.trans hg')
  obtain rfl : 4 = t' := Option.some.inj ((show (Tryz.prog.globals[3]?).map (·.type) = some 4 by kernel_rfl).symm.trans ht')
  obtain ⟨b, h1, h2⟩ := DataW.trod_bool Tryz.underlying4 hd
  have h3 : b = true := by
    have := congrArg Prod.fst h2
    simp only [DataW.lit.injEq, Lit.bool.injEq] at this
    exact this.symm
  rw [World.var?_cell hg' hvar 0, ← Array.getElem?_toList, h1, h3]; rfl
theorem info_of {W : World} (h : laidMet Tryz.prog [("internal/strconv.float64info", .agg [.lit (.int .u64 52), .lit (.int .u64 11), .lit (.int .i64 (-1023))])] W) : W.cell? ⟨6, 0, none⟩ = some (.int .u64 52) := by
  obtain ⟨ps, ⟨g', t', cs, fuel, p, q, hg', ht', hvar, hd, _, _⟩, _⟩ := h
  obtain rfl : 6 = g' := Option.some.inj ((show Tryz.prog.globalNamed "internal/strconv.float64info" = some 6 by kernel_rfl).symm.trans hg')
  obtain rfl : 110 = t' := Option.some.inj ((show (Tryz.prog.globals[6]?).map (·.type) = some 110 by kernel_rfl).symm.trans ht')
  obtain ⟨ys, n, rfl, hyy, hyl, hys, hyf⟩ := DataW.trod_struct Tryz.underlying110 hd
  have hc1 : Tryz.prog.cellsOf 54 = 1 := by kernel_rfl
  have hym : ys.map (·.1) = [DataW.lit (.int .u64 52), .lit (.int .u64 11), .lit (.int .i64 (-1023))] := by
    have := congrArg Prod.fst hyy
    simp only [DataW.agg.injEq] at this
    exact this.symm
  obtain ⟨y0, y1, y2, rfl⟩ : ∃ y0 y1 y2, ys = [y0, y1, y2] := by
    match ys, hys with
    | [a, b, c], _ => exact ⟨a, b, c, rfl⟩
  simp only [List.map_cons, List.map_nil, List.cons.injEq, and_true] at hym
  have hf0 : DataW.trod (fun _ => ()) Tryz.prog W 0 (fun _ => true) false n 54 ((cs.toList.drop 0).take 1) = some y0 := by
    have := hyf 0 _ rfl
    rw [show (#[(_ : Field), _, _])[0].type = 54 from rfl, hc1] at this
    exact this
  obtain ⟨v, h1, h2, _⟩ := DataW.trod_int Tryz.underlying54 hf0
  have h3 : v = 52 := by
    have := hym.1
    rw [h2] at this
    simpa using this
  rw [World.var?_cell hg' hvar 0, ← Array.getElem?_toList]
  have h4 := congrArg (·[0]?) h1
  simp only [List.getElem?_take, List.getElem?_drop] at h4
  rw [if_pos (by omega)] at h4
  rw [h3] at h4
  simpa using h4
theorem tens_of {W : World} (h : laidMet Tryz.prog [("internal/strconv.float64pow10", .slice (f10L.map fun z => .lit (.float .f64 z)) [])] W) :
    ∃ (b : Addr) (c : Nat), W.cell? ⟨10, 0, none⟩ = some (.slice (some b) 23 c) ∧ ∀ i z, f10L[i]? = some z → W.cell? (b.add i) = some (.float .f64 z) := by
  obtain ⟨ps, ⟨g', t', cs, fuel, p, q, hg', ht', hvar, hd, _, _⟩, _⟩ := h
  obtain rfl : 10 = g' := Option.some.inj ((show Tryz.prog.globalNamed "internal/strconv.float64pow10" = some 10 by kernel_rfl).symm.trans hg')
  obtain rfl : 150 = t' := Option.some.inj ((show (Tryz.prog.globals[10]?).map (·.type) = some 150 by kernel_rfl).symm.trans ht')
  have hc1 : Tryz.prog.cellsOf 23 = 1 := by kernel_rfl
  rcases DataW.trod_slice Tryz.underlying150 hd with ⟨_, h2⟩ | ⟨a, len, cap, elems, rest, n, rfl, h1, h2, hb, hlc, hcm, hel, hat, _, _⟩
  · have := congrArg Prod.fst h2
    cases this
  · have hem : elems.map (·.1) = f10L.map fun z => (DataW.lit (.float .f64 z) : DataW Unit) := by
      have := congrArg Prod.fst h2
      simp only [DataW.slice.injEq] at this
      exact this.1.symm
    have hl23 : len = 23 := by
      have := congrArg List.length hem
      rw [List.length_map, List.length_map, hel] at this
      exact this
    rw [hc1] at hat
    refine ⟨a, cap, ?_, fun i z hz => ?_⟩
    · rw [World.var?_cell hg' hvar 0, ← Array.getElem?_toList, h1, hl23]; rfl
    · have hi : i < 23 := (List.getElem?_eq_some_iff.1 hz).1
      have h3 := hat i (by omega)
      have h4 : (elems.map (·.1))[i]? = some (DataW.lit (.float .f64 z)) := by rw [hem, List.getElem?_map, hz]; rfl
      rw [List.getElem?_map, Option.map_eq_some_iff] at h4
      obtain ⟨y, hy, hy1⟩ := h4
      rw [hy, Option.bind_eq_some_iff] at h3
      obtain ⟨l, hl, ht⟩ := h3
      obtain ⟨v, h5, h6⟩ := trod_float Tryz.underlying23 ht
      have h7 : v = z := by rw [h6] at hy1; simpa using hy1
      rw [h5, h7, Nat.mul_one] at hl
      exact cell_of_cells?_one hl
theorem par_of {W : World} {laid : List (String × DataW Unit)} (h0 : laidMetH Tryz.prog laid W) (hp : (laid.all fun x => x.2.handleName?.isNone) = true)
    (e1 : laid.filter (fun x => x.1 == "internal/strconv.optimize") = [("internal/strconv.optimize", .lit (.bool true))])
    (e2 : laid.filter (fun x => x.1 == "internal/strconv.float64info") = [("internal/strconv.float64info", .agg [.lit (.int .u64 52), .lit (.int .u64 11), .lit (.int .i64 (-1023))])])
    (e3 : laid.filter (fun x => x.1 == "internal/strconv.float64pow10") = [("internal/strconv.float64pow10", .slice (f10L.map fun z => .lit (.float .f64 z)) [])]) : Par W := by
  rw [MakeChecks.laidMetH_plain _ _ _ hp] at h0
  have h1 := h0.filter (fun x => x.1 == "internal/strconv.optimize")
  have h2 := h0.filter (fun x => x.1 == "internal/strconv.float64info")
  have h3 := h0.filter (fun x => x.1 == "internal/strconv.float64pow10")
  rw [e1] at h1
  rw [e2] at h2
  rw [e3] at h3
  exact ⟨opt_of h1, info_of h2, tens_of h3⟩
theorem flo_of {W : World} {laid : List (String × DataW Unit)} (h0 : laidMetH Tryz.prog laid W) (hp : (laid.all fun x => x.2.handleName?.isNone) = true)
    (e1 : laid.filter (fun x => x.1 == "internal/strconv.uint64pow10") = [("internal/strconv.uint64pow10", Lib.tabData .u64 Lib.pow10Tab)])
    (e2 : laid.filter (fun x => x.1 == "internal/strconv.pow10Tab") = [("internal/strconv.pow10Tab", Go.Pinned.pow10Tab)]) : Flo W := by
  rw [MakeChecks.laidMetH_plain _ _ _ hp] at h0
  have h1 := h0.filter (fun x => x.1 == "internal/strconv.uint64pow10")
  have h2 := h0.filter (fun x => x.1 == "internal/strconv.pow10Tab")
  rw [e1] at h1
  rw [e2] at h2
  exact ⟨pows_of h2, Lib.tabIs_of_head (g := 7) (t := 140) (e := 30) (n := 20) (by kernel_rfl) (by kernel_rfl) Tryz.underlying140 Tryz.underlying30 (by kernel_rfl) (by kernel_rfl) h1⟩
end Go.Proofs.YtgpfjhligiapdaaGreatDoor

/- RealOrders: its walk. -/
namespace Go.Proofs.YtgpfjhligiapdaaGreatDoor
open Go.RowKit

set_option maxRecDepth 100000 in
set_option maxHeartbeats 3200000 in
theorem ordersL_any {a b c : Nat} (ha : a < 18446744073709551616) (hb : b < 18446744073709551616) (hc : c < 18446744073709551616) {w : World} (hF : Flo w) (hP : Par w) :
    Calls Tryz.prog 8 #[.int .u64 (a : Int), .int .u64 (b : Int), .int .u64 (c : Int)] w fun e w' => e = .returned (.bool true) ∧ Below w.heap.size w w' := by
  have hal := alive02_any hF hP
  have fa := mfrom_run a
  have fb := mfrom_run b
  have fc := mfrom_run c
  have oab := order_any ha hb
  have obc := order_any hb hc
  have oac := order_any ha hc
  have oba := order_any hb ha
  have oaa := order_any ha ha
  have sab := same_any ha hb
  rw [cmpN_self] at oaa
  rw [cmpN_neg] at oba
  have hle := cmpN_le (rankN a) (rankN b) (rankN c)
  have hz : (decide (canon a = canon b)) = decide (cmpN (rankN a) (rankN b) = 0) := decide_eq_decide.2 (by rw [cmpN_zero, rank_inj ha hb])
  rw [hz] at sab
  have bP := cmpN_bound (rankN a) (rankN b)
  have bQ := cmpN_bound (rankN b) (rankN c)
  have bS := cmpN_bound (rankN a) (rankN c)
  obtain ⟨P, hPe⟩ : ∃ P, P = cmpN (rankN a) (rankN b) := ⟨_, rfl⟩
  obtain ⟨Q, hQe⟩ : ∃ P, P = cmpN (rankN b) (rankN c) := ⟨_, rfl⟩
  obtain ⟨S, hSe⟩ : ∃ P, P = cmpN (rankN a) (rankN c) := ⟨_, rfl⟩
  rw [← hPe] at oab oba sab bP hle
  rw [← hQe] at obc bQ hle
  rw [← hSe] at oac bS hle
  replace oab := Lib.hid oab
  replace obc := Lib.hid obc
  replace oac := Lib.hid oac
  replace oba := Lib.hid oba
  replace oaa := Lib.hid oaa
  replace hal := Lib.hid hal
  clear hz hPe hQe hSe hF hP
  by_cases hP0 : P = 0
  · rw [decide_eq_true hP0] at sab
    subst hP0
    replace sab := Lib.hid sab
    go_enter Tryz.func8, Tryz.ntmps8
    go_wp2_with fail
    refine hal.out.mono ?_
    rintro e w1 ⟨rfl, hb1⟩
    replace hb1 := Lib.hid hb1
    go_wp2_with fail
    refine (oab.out _).mono ?_
    rintro e w' ⟨rfl, hww⟩
    obtain rfl := hww.symm
    clear hww
    go_wp2_with fail
    refine (obc.out _).mono ?_
    rintro e w' ⟨rfl, hww⟩
    obtain rfl := hww.symm
    clear hww
    go_wp2_with fail
    refine (oac.out _).mono ?_
    rintro e w' ⟨rfl, hww⟩
    obtain rfl := hww.symm
    clear hww
    go_wp2_with fail
    refine (oba.out _).mono ?_
    rintro e w' ⟨rfl, hww⟩
    obtain rfl := hww.symm
    clear hww
    go_wp2_with fail
    refine (oaa.out _).mono ?_
    rintro e w' ⟨rfl, hww⟩
    obtain rfl := hww.symm
    clear hww
    go_wp2_with fail
    refine (sab.out _).mono ?_
    rintro e w' ⟨rfl, hww⟩
    obtain rfl := hww.symm
    clear hww
    by_cases hQ : Q ≤ 0
    · have hS : S ≤ 0 := hle (by omega) hQ
      go_wp2
      go_ret
      exact ⟨rfl, hb1.out⟩
    · go_wp2
      go_ret
      exact ⟨rfl, hb1.out⟩
  · rw [decide_eq_false hP0] at sab
    have hPb : (P == 0) = false := beq_eq_false_iff_ne.2 hP0
    have hPP : - -P = P := by omega
    replace sab := Lib.hid sab
    go_enter Tryz.func8, Tryz.ntmps8
    go_wp2_with fail
    refine hal.out.mono ?_
    rintro e w1 ⟨rfl, hb1⟩
    replace hb1 := Lib.hid hb1
    go_wp2_with fail
    refine (oab.out _).mono ?_
    rintro e w' ⟨rfl, hww⟩
    obtain rfl := hww.symm
    clear hww
    go_wp2_with fail
    refine (obc.out _).mono ?_
    rintro e w' ⟨rfl, hww⟩
    obtain rfl := hww.symm
    clear hww
    go_wp2_with fail
    refine (oac.out _).mono ?_
    rintro e w' ⟨rfl, hww⟩
    obtain rfl := hww.symm
    clear hww
    go_wp2_with fail
    refine (oba.out _).mono ?_
    rintro e w' ⟨rfl, hww⟩
    obtain rfl := hww.symm
    clear hww
    go_wp2_with fail
    refine (oaa.out _).mono ?_
    rintro e w' ⟨rfl, hww⟩
    obtain rfl := hww.symm
    clear hww
    go_wp2_with fail
    refine (sab.out _).mono ?_
    rintro e w' ⟨rfl, hww⟩
    obtain rfl := hww.symm
    clear hww
    by_cases hPl : P ≤ 0
    · by_cases hQ : Q ≤ 0
      · have hS : S ≤ 0 := hle hPl hQ
        go_wp2
        go_ret
        exact ⟨rfl, hb1.out⟩
      · go_wp2
        go_ret
        exact ⟨rfl, hb1.out⟩
    · go_wp2
      go_ret
      exact ⟨rfl, hb1.out⟩
end Go.Proofs.YtgpfjhligiapdaaGreatDoor
