/- words.Find. -/
import Derived.Test.YtdhojdkeidilfaaDoorUpper
namespace Go.Proofs.YtdhojdkeidilfaaDoor
open Go.RowKit

theorem flat7 : ∀ (T : List Spec) (j q : Nat) (hj : j < T.length), q < 7 → (T.flatMap Spec.cells)[j * 7 + q]? = (T[j].cells)[q]?
  | [], j, q, hj, _ => absurd hj (by simp)
  | x :: T, 0, q, _, hq => by
    rw [List.flatMap_cons, List.getElem?_append_left (by simp [Spec.cells]; omega), Nat.zero_mul, Nat.zero_add]; rfl
  | x :: T, j + 1, q, hj, hq => by
    rw [List.flatMap_cons, List.getElem?_append_right (by simp [Spec.cells]; omega), show (j + 1) * 7 + q - x.cells.length = j * 7 + q by simp [Spec.cells]; omega]
    exact flat7 T j q (by simpa using hj) hq
theorem row7 {w : World} {b : Nat} {T : List Spec} (h : w.rangeAt b 0 (T.flatMap Spec.cells)) {j : Nat} (hj : j < T.length) :
    w.cell? ⟨b, j * 7, none⟩ = some (.string T[j].name) ∧ w.cell? ⟨b, j * 7 + 1, none⟩ = some (.int .i64 T[j].kind) ∧ w.cell? ⟨b, j * 7 + 2, none⟩ = some (.int .i64 T[j].least) ∧ w.cell? ⟨b, j * 7 + 3, none⟩ = some (.int .i64 T[j].most) ∧
    w.cell? ⟨b, j * 7 + 4, none⟩ = some (.int .i64 T[j].first) ∧ w.cell? ⟨b, j * 7 + 5, none⟩ = some (.int .i64 T[j].last) ∧ w.cell? ⟨b, j * 7 + 6, none⟩ = some (.int .i64 T[j].step) := by
  have k : ∀ (q : Nat) (v : Value), q < 7 → (T[j].cells)[q]? = some v → w.cell? ⟨b, j * 7 + q, none⟩ = some v := fun q v hq hv => by
    have := h (j * 7 + q) v ((flat7 T j q hj hq).trans hv)
    rwa [Nat.zero_add] at this
  exact ⟨k 0 _ (by omega) rfl, k 1 _ (by omega) rfl, k 2 _ (by omega) rfl, k 3 _ (by omega) rfl, k 4 _ (by omega) rfl, k 5 _ (by omega) rfl, k 6 _ (by omega) rfl⟩

theorem eq17_any (x : Spec) (nb : Nat) (name : ByteArray) (w : World) (hn : w.cell? ⟨nb, 0, none⟩ = some (.string name)) :
    Calls Tryd.prog 31 #[.agg #[.string x.name, .int .i64 x.kind, .int .i64 x.least, .int .i64 x.most, .int .i64 x.first, .int .i64 x.last, .int .i64 x.step], .pointer (some ⟨nb, 0, none⟩)] w fun e w' => e = .returned (.bool (decide (x.name = name))) ∧ Below w.heap.size w w' := by
  have hb := (Below.refl w.heap.size w).alloc (Nat.le_refl _) (.cells #[.string x.name, .int .i64 x.kind, .int .i64 x.least, .int .i64 x.most, .int .i64 x.first, .int .i64 x.last, .int .i64 x.step] 26)
  have hn' := cell_b hb hn
  have hx : (w.alloc (.cells #[.string x.name, .int .i64 x.kind, .int .i64 x.least, .int .i64 x.most, .int .i64 x.first, .int .i64 x.last, .int .i64 x.step] 26)).cell? ⟨w.heap.size, 0, none⟩ = some (.string x.name) := by rw [World.cell?_alloc_new]; rfl
  replace hb := Lib.hid hb
  go_enter Tryd.func31, Tryd.ntmps31
  go_wp2
  go_ret
  exact ⟨by rw [← str_beq]; rfl, hb.out⟩
def noneAt (T : List Spec) (name : ByteArray) (i : Nat) : Prop := ∀ (j : Nat) (hj : j < T.length), j < i → T[j].name ≠ name
set_option maxRecDepth 100000 in
set_option maxHeartbeats 1600000 in
theorem idx17_any (T : List Spec) (n : Nat) (hln : T.length = n) (b nb : Nat) (name : ByteArray) (w : World) (hT : w.rangeAt b 0 (T.flatMap Spec.cells)) (hl : T.length ≤ 1000) (hn : w.cell? ⟨nb, 0, none⟩ = some (.string name)) :
    Calls Tryd.prog 30 #[.slice (some ⟨b, 0, none⟩) n n, .func (.func 31) #[] #[.pointer (some ⟨nb, 0, none⟩)]] w fun e w' =>
      ((∃ (i : Nat) (h : i < T.length), e = .returned (.int .i64 i) ∧ T[i].name = name ∧ noneAt T name i) ∨ (e = .returned (.int .i64 (-1)) ∧ noneAt T name T.length)) ∧ Below w.heap.size w w' := by
  subst hln
  replace hT := Lib.hid hT
  replace hn := Lib.hid hn
  go_enter Tryd.func30, Tryd.ntmps30
  go_wp2_with fail
  go_loopw [8] (fun s8 wr => ∃ i, i ≤ T.length ∧ s8 = .int .i64 i ∧ noneAt T name i ∧ Below w.heap.size w wr) (fun s8 _ => T.length - (intOf s8).toNat)
  case atStart => exact ⟨0, Nat.zero_le _, rfl, fun j _ h => absurd h (by omega), Below.refl _ _⟩
  case round =>
    obtain ⟨i, hi, rfl, hno, hbel⟩ := hrel
    replace hno := Lib.hid hno
    by_cases hlt : i < T.length
    · obtain ⟨d0, d1, d2, d3, d4, d5, d6⟩ := row7 hT.out hlt
      replace d0 := cell_b hbel d0
      replace d1 := cell_b hbel d1
      replace d2 := cell_b hbel d2
      replace d3 := cell_b hbel d3
      replace d4 := cell_b hbel d4
      replace d5 := cell_b hbel d5
      replace d6 := cell_b hbel d6
      have hn1 := cell_b hbel hn.out
      obtain ⟨x, hx⟩ : ∃ x, x = T[i] := ⟨_, rfl⟩
      rw [← hx] at d0 d1 d2 d3 d4 d5 d6
      replace hx := Lib.hid hx
      have hlti : (i : Int) < T.length := by omega
      replace hn1 := Lib.hid hn1
      go_wp2_with fail
      refine (eq17_any x nb name wr hn1.out).mono ?_
      rintro e w4 ⟨rfl, hb4⟩
      have hbel4 := hbel.trans (hb4.mono hbel.size)
      clear hb4 hbel d0 d1 d2 d3 d4 d5 d6
      by_cases he : x.name = name
      · have he2 : decide (x.name = name) = true := decide_eq_true he
        rw [he2]
        go_wp2
        go_ret
        exact ⟨Or.inl ⟨i, hlt, rfl, by rw [← hx.out]; exact he, hno.out⟩, hbel4⟩
      · have he2 : decide (x.name = name) = false := decide_eq_false he
        rw [he2]
        replace he := Lib.hid he
        go_wp2
        go_roundw
        case rel => exact ⟨i + 1, by omega, by go_num, fun j hj h => by
          rcases Nat.lt_or_ge j i with h9 | h9
          · exact hno.out j hj h9
          · have : j = i := by omega
            subst this
            rw [← hx.out]; exact he.out, hbel4⟩
        case measure => simp [intOf]; omega
    · have hin : i = T.length := by omega
      subst hin
      go_wp2
      go_ret
      exact ⟨Or.inr ⟨rfl, hno.out⟩, hbel⟩
abbrev zeroSpec : Spec := ⟨⟨#[]⟩, 0, 0, 0, 0, 0, 0⟩
def found (T : List Spec) (name : ByteArray) : Spec × Bool := match T.find? (fun x => decide (x.name = name)) with
  | some x => (x, true)
  | none => (zeroSpec, false)
theorem found_at {T : List Spec} {name : ByteArray} {i : Nat} (hi : i < T.length) (h : T[i].name = name) (hn : noneAt T name i) : found T name = (T[i], true) := by
  have : T.find? (fun x => decide (x.name = name)) = some T[i] := List.find?_eq_some_iff_getElem.2 ⟨by simpa using h, i, hi, rfl, fun j hj => by simpa using hn j (by omega) hj⟩
  rw [found, this]
theorem found_none {T : List Spec} {name : ByteArray} (hn : noneAt T name T.length) : found T name = (zeroSpec, false) := by
  have : T.find? (fun x => decide (x.name = name)) = none := List.find?_eq_none.2 (fun x hx => by
    obtain ⟨j, hj, rfl⟩ := List.getElem_of_mem hx
    simpa using hn j hj hj)
  rw [found, this]
theorem there_below {w w' : World} {b n : Nat} (hb : Below w.heap.size w w') (hl : b < w.heap.size) (h : w.there b 0 n) : w'.there b 0 n := fun j hj => by
  have := h j hj; rw [hb.cell (p := ⟨b, 0 + j, none⟩) hl, hb.frozen (p := ⟨b, 0 + j, none⟩) hl]; exact this
theorem range_below {w w' : World} {b o : Nat} {cs : List Value} (hb : Below w.heap.size w w') (h : w.rangeAt b o cs) : w'.rangeAt b o cs := fun j u hj => cell_b hb (h j u hj)
theorem len17 : words17.length = 39 := by decide
set_option maxRecDepth 100000 in
set_option maxHeartbeats 1600000 in
theorem find17_any (s : ByteArray) (hs : s.size ≤ 9223372036854775807) (w : World) : Calls Tryd.prog 17 #[.string s] w fun e w' =>
    e = .returned (.tuple #[.agg (found words17 (upB s)).1.cells.toArray, .bool (found words17 (upB s)).2]) ∧ Below w.heap.size w w' := by
  have hz : (w.alloc (.cells #[.string ⟨#[]⟩, .int .i64 0, .int .i64 0, .int .i64 0, .int .i64 0, .int .i64 0, .int .i64 0] 26)).rangeAt w.heap.size 0 [.string ⟨#[]⟩, .int .i64 0, .int .i64 0, .int .i64 0, .int .i64 0, .int .i64 0, .int .i64 0] := fun j u hj => by rw [Nat.zero_add, World.cell?_alloc_new]; simpa using hj
  have ht := there_of (n := 7) hz (Blk.new _ _ _) rfl
  have hl0 : w.heap.size < (w.alloc (.cells #[.string ⟨#[]⟩, .int .i64 0, .int .i64 0, .int .i64 0, .int .i64 0, .int .i64 0, .int .i64 0] 26)).heap.size := by simp
  have hb0 := (Below.refl w.heap.size w).alloc (Nat.le_refl _) (.cells #[.string ⟨#[]⟩, .int .i64 0, .int .i64 0, .int .i64 0, .int .i64 0, .int .i64 0, .int .i64 0] 26)
  clear hz
  go_enter Tryd.func17, Tryd.ntmps17
  go_wp2_with fail
  refine (all17_any _).mono ?_
  rintro e w1 ⟨b, rfl, hb, hB, hT, hb1⟩
  go_wp2_with fail
  refine (upper17_any s hs _).mono ?_
  rintro e w2 ⟨rfl, hb2⟩
  obtain ⟨name, hname⟩ : ∃ x, x = upB s := ⟨_, rfl⟩
  rw [← hname]
  have hb3 := (Below.refl w2.heap.size w2).alloc (Nat.le_refl _) (.cells #[.string name] 9)
  have hn3 : (w2.alloc (.cells #[.string name] 9)).cell? ⟨w2.heap.size, 0, none⟩ = some (.string name) := by rw [World.cell?_alloc_new]; rfl
  have hT3 := range_below hb3 (range_below hb2 hT)
  have ht3 := there_below hb3 (Nat.lt_of_lt_of_le (Nat.lt_of_lt_of_le hl0 hb1.size) hb2.size) (there_below hb2 (Nat.lt_of_lt_of_le hl0 hb1.size) (there_below hb1 hl0 ht))
  have hl3 := Nat.lt_of_lt_of_le (Nat.lt_of_lt_of_le (Nat.lt_of_lt_of_le hl0 hb1.size) hb2.size) hb3.size
  have hb03 := ((hb0.trans (hb1.mono hb0.size)).trans (hb2.mono (Nat.le_trans hb0.size hb1.size))).trans (hb3.mono (Nat.le_trans (Nat.le_trans hb0.size hb1.size) hb2.size))
  replace hname := Lib.hid hname
  clear ht hl0 hb0 hb hB hT hb1 hb2 hb3
  replace hn3 := Lib.hid hn3
  replace hT3 := Lib.hid hT3
  replace ht3 := Lib.hid ht3
  replace hb03 := Lib.hid hb03
  replace hl3 := Lib.hid hl3
  go_wp2_with fail
  generalize w2.alloc (.cells #[.string name] 9) = w3 at *
  refine (idx17_any words17 39 len17 b w2.heap.size name w3 hT3.out (by rw [len17]; omega) hn3.out).mono ?_
  rintro e w4 ⟨h, hb4⟩
  have hT4 := range_below hb4 hT3.out
  have ht4 := there_below hb4 hl3.out ht3.out
  have hb04 := hb03.out.trans (hb4.mono hb03.out.size)
  clear hb4 hb03 ht3 hn3 hT3
  replace ht4 := Lib.hid ht4
  replace hb04 := Lib.hid hb04
  rcases h with ⟨i, hi, rfl, hnm, hno⟩ | ⟨rfl, hno⟩
  · have hf := found_at hi hnm hno
    obtain ⟨d0, d1, d2, d3, d4, d5, d6⟩ := row7 hT4 hi
    have hi9 : i < 39 := by rw [← len17]; exact hi
    have hlti : (i : Int) < 39 := by omega
    have hnz : ¬ ((i : Int) < 0) := by omega
    obtain ⟨x, hx⟩ : ∃ x, x = words17[i]'hi := ⟨_, rfl⟩
    rw [← hx] at d0 d1 d2 d3 d4 d5 d6 hf
    replace hf := Lib.hid hf
    clear hno hnm hT4 hi hx
    have hr5 := World.rangeAt_setCells_same (w := w4) (b := w.heap.size) (o := 0) x.cells ht4.out
    have hb5 : Below w.heap.size w (w4.setCells w.heap.size 0 x.cells) := Below.setCells' (Nat.le_refl _) _ _ _ hb04.out
    replace hr5 := Lib.hid hr5
    replace hb5 := Lib.hid hb5
    go_wp2_with (refine wpList_store_mid rfl 26 _ _ rfl w.heap.size 0 _ rfl rfl ht4.out infoSpec (one7 _ _ _ _ _ _ _) ?_)
    exact bodyPost_ret (results_cell2 (v := .agg x.cells.toArray) rfl rfl (run_loadVar_mid (P := Tryd.prog) _ _ 0 26 _ _ hr5.out Tryd.underlying26 rfl infoSpec)) rfl ⟨by rw [← hname.out, hf.out]; rfl, hb5.out⟩
  · have hf := found_none hno
    replace hf := Lib.hid hf
    clear hno hT4
    have hr5 := World.rangeAt_setCells_same (w := w4) (b := w.heap.size) (o := 0) zeroSpec.cells ht4.out
    have hb5 : Below w.heap.size w (w4.setCells w.heap.size 0 zeroSpec.cells) := Below.setCells' (Nat.le_refl _) _ _ _ hb04.out
    replace hr5 := Lib.hid hr5
    replace hb5 := Lib.hid hb5
    go_wp2_with (refine wpList_store_mid rfl 26 _ _ rfl w.heap.size 0 _ rfl rfl ht4.out infoSpec (one7 _ _ _ _ _ _ _) ?_)
    exact bodyPost_ret (results_cell2 (v := .agg zeroSpec.cells.toArray) rfl rfl (run_loadVar_mid (P := Tryd.prog) _ _ 0 26 _ _ hr5.out Tryd.underlying26 rfl infoSpec)) rfl ⟨by rw [← hname.out, hf.out]; rfl, hb5.out⟩
end Go.Proofs.YtdhojdkeidilfaaDoor
