/- words.Check. -/
import Derived.Test.YtdhojdkeidilfaaDoorFind
import Derived.Test.YtdhojdkeidilfaaDoorShelf
namespace Go.Proofs.YtdhojdkeidilfaaDoor
open Go.RowKit

def oddB (name : ByteArray) (n : Int) : Bool := (decide (name = ⟨#[77, 83, 69, 84]⟩) && decide (n % 2 = 0)) || (decide (name = ⟨#[72, 83, 69, 84]⟩) && decide (n % 2 = 1))
theorem str_beqL (a : ByteArray) (l : List UInt8) : (a.toList == l) = decide (a = ⟨l.toArray⟩) := by
  have := str_beq a ⟨l.toArray⟩
  rwa [show (⟨l.toArray⟩ : ByteArray).toList = l by rw [ByteArray.toList_eq]] at this
set_option maxRecDepth 100000 in
set_option maxHeartbeats 1600000 in
theorem odd17_any (x : Spec) (n : Int) (h0 : 0 ≤ n) (w : World) :
    Calls Tryd.prog 26 #[.agg #[.string x.name, .int .i64 x.kind, .int .i64 x.least, .int .i64 x.most, .int .i64 x.first, .int .i64 x.last, .int .i64 x.step], .int .i64 n] w fun e w' => e = .returned (.bool (oddB x.name n)) ∧ Below w.heap.size w w' := by
  have hb := (Below.refl w.heap.size w).alloc (Nat.le_refl _) (.cells #[.string x.name, .int .i64 x.kind, .int .i64 x.least, .int .i64 x.most, .int .i64 x.first, .int .i64 x.last, .int .i64 x.step] 26)
  have hx : (w.alloc (.cells #[.string x.name, .int .i64 x.kind, .int .i64 x.least, .int .i64 x.most, .int .i64 x.first, .int .i64 x.last, .int .i64 x.step] 26)).cell? ⟨w.heap.size, 0, none⟩ = some (.string x.name) := by rw [World.cell?_alloc_new]; rfl
  replace hb := Lib.hid hb
  have hm : (x.name.toList == [77, 83, 69, 84]) = decide (x.name = ⟨#[77, 83, 69, 84]⟩) := str_beqL _ _
  have hh : (x.name.toList == [72, 83, 69, 84]) = decide (x.name = ⟨#[72, 83, 69, 84]⟩) := str_beqL _ _
  obtain ⟨m, hM⟩ : ∃ m, m = (x.name.toList == [77, 83, 69, 84]) := ⟨_, rfl⟩
  obtain ⟨h, hH⟩ : ∃ h, h = (x.name.toList == [72, 83, 69, 84]) := ⟨_, rfl⟩
  have hr : oddB x.name n = ((m && decide (n % 2 = 0)) || (h && decide (n % 2 = 1))) := by rw [oddB, hM, hH, hm, hh]
  have hw1 : n.tmod 2 = n % 2 := Int.tmod_eq_emod_of_nonneg h0
  replace hr := Lib.hid hr
  clear hm hh
  replace hM := hM.symm
  replace hH := hH.symm
  have hp := Int.emod_two_eq n
  cases m <;> cases h <;> rcases hp with hp | hp <;>
  · go_enter Tryd.func26, Tryd.ntmps26
    go_wp2
    go_ret
    exact ⟨by rw [hr.out, hp]; rfl, hb.out⟩

def lowB (s : ByteArray) : ByteArray := ⟨(Lib.toLowerA s.data.toList).toArray⟩
def eNone : ByteArray := ⟨#[69, 82, 82, 32, 110, 111, 32, 99, 111, 109, 109, 97, 110, 100]⟩
def eUnknown : ByteArray := ⟨#[69, 82, 82, 32, 117, 110, 107, 110, 111, 119, 110, 32, 99, 111, 109, 109, 97, 110, 100]⟩
def eWrong (name : ByteArray) : ByteArray := (⟨#[69, 82, 82, 32, 119, 114, 111, 110, 103, 32, 110, 117, 109, 98, 101, 114, 32, 111, 102, 32, 97, 114, 103, 117, 109, 101, 110, 116, 115, 32, 102, 111, 114, 32]⟩ : ByteArray) ++ lowB name
def wrongB (x : Spec) (n : Int) : Bool := decide (n < x.least) || decide (x.most < n) || oddB x.name n
def checkS (x : Spec) (n : Int) : Spec × ByteArray := if wrongB x n = true then (zeroSpec, eWrong x.name) else (x, ByteArray.empty)
def checkF (keys : List ByteArray) : Spec × ByteArray := match keys with
  | [] => (zeroSpec, eNone)
  | k :: _ => if (found words17 (upB k)).2 = false then (zeroSpec, eUnknown) else checkS (found words17 (upB k)).1 keys.length

theorem names_ascii : ∀ x ∈ words17, ∀ (j : Nat) (b : UInt8), x.name.data.toList[j]? = some b → b.toNat < 128 := by
  have : ∀ x ∈ words17, x.name.data.toList.all (fun b => decide (b.toNat < 128)) = true := by decide
  intro x hx j b hb
  have h := List.all_eq_true.1 (this x hx) b (List.mem_of_getElem? hb)
  simpa using h
theorem names_short : ∀ x ∈ words17, x.name.size ≤ 100 := by decide
theorem found_mem {name : ByteArray} (h : (found words17 name).2 = true) : (found words17 name).1 ∈ words17 := by
  unfold found at h ⊢
  split at h
  · rename_i x hx
    exact List.mem_of_find?_eq_some hx
  · cases h
set_option maxRecDepth 100000 in
set_option maxHeartbeats 1600000 in
theorem check17_any {w : World} {a : Option Addr} {n ca : Nat} {keys : List ByteArray} (hx : Reads w 1 (.slice a n ca) n (keys.map Value.string)) (hs : ∀ k ∈ keys, k.size ≤ 9223372036854775807) (hn : n ≤ 1000000) :
    Calls Tryd.prog 11 #[.slice a n ca] w fun e w' => e = .returned (.tuple #[.agg (checkF keys).1.cells.toArray, .string (checkF keys).2]) ∧ Below w.heap.size w w' := by
  have lx := hx.len.2
  simp only [List.length_map, Nat.mul_one] at lx
  have hz : (w.alloc (.cells #[.string ⟨#[]⟩, .int .i64 0, .int .i64 0, .int .i64 0, .int .i64 0, .int .i64 0, .int .i64 0] 26)).rangeAt w.heap.size 0 [.string ⟨#[]⟩, .int .i64 0, .int .i64 0, .int .i64 0, .int .i64 0, .int .i64 0, .int .i64 0] := fun j u hj => by rw [Nat.zero_add, World.cell?_alloc_new]; simpa using hj
  have ht := there_of (n := 7) hz (Blk.new _ _ _) rfl
  have hl0 : w.heap.size < (w.alloc (.cells #[.string ⟨#[]⟩, .int .i64 0, .int .i64 0, .int .i64 0, .int .i64 0, .int .i64 0, .int .i64 0] 26)).heap.size := by simp
  have hb0 := (Below.refl w.heap.size w).alloc (Nat.le_refl _) (.cells #[.string ⟨#[]⟩, .int .i64 0, .int .i64 0, .int .i64 0, .int .i64 0, .int .i64 0, .int .i64 0] 26)
  replace hz := Lib.hid hz
  replace ht := Lib.hid ht
  by_cases h0 : n = 0
  · subst h0
    have hk : keys = [] := List.length_eq_zero_iff.1 lx
    subst hk
    clear hx hs lx
    have hr5 := World.rangeAt_setCells_same (w := (w.alloc (.cells #[.string ⟨#[]⟩, .int .i64 0, .int .i64 0, .int .i64 0, .int .i64 0, .int .i64 0, .int .i64 0] 26))) (b := w.heap.size) (o := 0) zeroSpec.cells ht.out
    have hb5 : Below w.heap.size w ((w.alloc (.cells #[.string ⟨#[]⟩, .int .i64 0, .int .i64 0, .int .i64 0, .int .i64 0, .int .i64 0, .int .i64 0] 26)).setCells w.heap.size 0 zeroSpec.cells) := Below.setCells' (Nat.le_refl _) _ _ _ hb0
    replace hr5 := Lib.hid hr5
    replace hb5 := Lib.hid hb5
    go_enter Tryd.func11, Tryd.ntmps11
    go_wp2_with (refine wpList_store_mid rfl 26 _ _ rfl w.heap.size 0 _ rfl rfl ht.out infoSpec (one7 _ _ _ _ _ _ _) ?_)
    exact bodyPost_ret (results_cell2 (v := .agg zeroSpec.cells.toArray) rfl rfl (run_loadVar_mid (P := Tryd.prog) _ _ 0 26 _ _ hr5.out Tryd.underlying26 rfl infoSpec)) rfl ⟨rfl, hb5.out⟩
  · obtain ⟨k, ks, rfl⟩ : ∃ k ks, keys = k :: ks := by
      cases keys with
      | nil => exact absurd lx (by simp; omega)
      | cons k ks => exact ⟨k, ks, rfl⟩
    have hk := hs k (by simp)
    obtain ⟨b1, o1, rfl, hc1⟩ := hx.at (j := 0) (by simp)
    have d0 : w.cell? ⟨b1, o1, none⟩ = some (.string k) := by simpa using hc1 0 (.string k) rfl
    replace d0 := cell_b hb0 d0
    have hnp : (0 : Int) < n := by omega
    have hn0 : ¬ ((n : Int) = 0) := by omega
    have hlen : (k :: ks).length = n := by omega
    clear hs hc1 hx lx
    replace hlen := Lib.hid hlen
    replace hb0 := Lib.hid hb0
    replace hl0 := Lib.hid hl0
    go_enter Tryd.func11, Tryd.ntmps11
    go_wp2_with fail
    refine (find17_any k hk _).mono ?_
    rintro e w1 ⟨he, hb1⟩
    have ht1 := there_below hb1 hl0.out ht.out
    have hb01 := hb0.out.trans (hb1.mono hb0.out.size)
    have hl1 := Nat.lt_of_lt_of_le hl0.out hb1.size
    obtain ⟨x, hxq⟩ : ∃ x, x = (found words17 (upB k)).1 := ⟨_, rfl⟩
    obtain ⟨f, hfq⟩ : ∃ f, f = (found words17 (upB k)).2 := ⟨_, rfl⟩
    have hmem : f = true → x ∈ words17 := fun h => by rw [hxq]; exact found_mem (hfq.symm.trans h)
    rw [← hxq, ← hfq] at he
    replace he : e = .returned (.tuple #[.agg #[.string x.name, .int .i64 x.kind, .int .i64 x.least, .int .i64 x.most, .int .i64 x.first, .int .i64 x.last, .int .i64 x.step], .bool f]) := he
    subst he
    have hcF : checkF (k :: ks) = if f = false then (zeroSpec, eUnknown) else checkS x n := by rw [checkF, ← hfq, ← hxq, hlen.out]
    replace hcF := Lib.hid hcF
    clear hxq hfq hb1 d0 ht hz hb0 hl0
    have hb2 := (Below.refl w1.heap.size w1).alloc (Nat.le_refl _) (.cells #[.string x.name, .int .i64 x.kind, .int .i64 x.least, .int .i64 x.most, .int .i64 x.first, .int .i64 x.last, .int .i64 x.step] 26)
    have x0 : (w1.alloc (.cells #[.string x.name, .int .i64 x.kind, .int .i64 x.least, .int .i64 x.most, .int .i64 x.first, .int .i64 x.last, .int .i64 x.step] 26)).cell? ⟨w1.heap.size, 0, none⟩ = some (.string x.name) := by rw [World.cell?_alloc_new]; rfl
    have x1 : (w1.alloc (.cells #[.string x.name, .int .i64 x.kind, .int .i64 x.least, .int .i64 x.most, .int .i64 x.first, .int .i64 x.last, .int .i64 x.step] 26)).cell? ⟨w1.heap.size, 1, none⟩ = some (.int .i64 x.kind) := by rw [World.cell?_alloc_new]; rfl
    have x2 : (w1.alloc (.cells #[.string x.name, .int .i64 x.kind, .int .i64 x.least, .int .i64 x.most, .int .i64 x.first, .int .i64 x.last, .int .i64 x.step] 26)).cell? ⟨w1.heap.size, 2, none⟩ = some (.int .i64 x.least) := by rw [World.cell?_alloc_new]; rfl
    have x3 : (w1.alloc (.cells #[.string x.name, .int .i64 x.kind, .int .i64 x.least, .int .i64 x.most, .int .i64 x.first, .int .i64 x.last, .int .i64 x.step] 26)).cell? ⟨w1.heap.size, 3, none⟩ = some (.int .i64 x.most) := by rw [World.cell?_alloc_new]; rfl
    have x4 : (w1.alloc (.cells #[.string x.name, .int .i64 x.kind, .int .i64 x.least, .int .i64 x.most, .int .i64 x.first, .int .i64 x.last, .int .i64 x.step] 26)).cell? ⟨w1.heap.size, 4, none⟩ = some (.int .i64 x.first) := by rw [World.cell?_alloc_new]; rfl
    have x5 : (w1.alloc (.cells #[.string x.name, .int .i64 x.kind, .int .i64 x.least, .int .i64 x.most, .int .i64 x.first, .int .i64 x.last, .int .i64 x.step] 26)).cell? ⟨w1.heap.size, 5, none⟩ = some (.int .i64 x.last) := by rw [World.cell?_alloc_new]; rfl
    have x6 : (w1.alloc (.cells #[.string x.name, .int .i64 x.kind, .int .i64 x.least, .int .i64 x.most, .int .i64 x.first, .int .i64 x.last, .int .i64 x.step] 26)).cell? ⟨w1.heap.size, 6, none⟩ = some (.int .i64 x.step) := by rw [World.cell?_alloc_new]; rfl
    have hl2 := Nat.lt_of_lt_of_le hl1 hb2.size
    have ht2 := there_below hb2 hl1 ht1
    have hb02 := hb01.trans (hb2.mono hb01.size)
    have hsz2 : w1.heap.size < (w1.alloc (.cells #[.string x.name, .int .i64 x.kind, .int .i64 x.least, .int .i64 x.most, .int .i64 x.first, .int .i64 x.last, .int .i64 x.step] 26)).heap.size := by simp
    clear hb01 hl1 ht1 hb2
    replace hb02 := Lib.hid hb02
    replace ht2 := Lib.hid ht2
    replace hl2 := Lib.hid hl2
    replace hsz2 := Lib.hid hsz2
    replace hmem := Lib.hid hmem
    cases f with
    | false =>
      have hcF : checkF (k :: ks) = (zeroSpec, eUnknown) := hcF.out
      replace hcF := Lib.hid hcF
      have hr5 := World.rangeAt_setCells_same (w := (w1.alloc (.cells #[.string x.name, .int .i64 x.kind, .int .i64 x.least, .int .i64 x.most, .int .i64 x.first, .int .i64 x.last, .int .i64 x.step] 26))) (b := w.heap.size) (o := 0) zeroSpec.cells ht2.out
      have hb5 : Below w.heap.size w ((w1.alloc (.cells #[.string x.name, .int .i64 x.kind, .int .i64 x.least, .int .i64 x.most, .int .i64 x.first, .int .i64 x.last, .int .i64 x.step] 26)).setCells w.heap.size 0 zeroSpec.cells) := Below.setCells' (Nat.le_refl _) _ _ _ hb02.out
      replace hr5 := Lib.hid hr5
      replace hb5 := Lib.hid hb5
      go_wp2_with (refine wpList_store_mid rfl 26 _ _ rfl w.heap.size 0 _ rfl rfl ht2.out infoSpec (one7 _ _ _ _ _ _ _) ?_)
      exact bodyPost_ret (results_cell2 (v := .agg zeroSpec.cells.toArray) rfl rfl (run_loadVar_mid (P := Tryd.prog) _ _ 0 26 _ _ hr5.out Tryd.underlying26 rfl infoSpec)) rfl ⟨by rw [hcF.out]; rfl, hb5.out⟩
    | true =>
      have hcF : checkF (k :: ks) = checkS x n := hcF.out
      replace hcF := Lib.hid hcF
      by_cases h1 : (n : Int) < x.least
      · have hw : wrongB x n = true := by rw [wrongB, decide_eq_true h1]; rfl
        replace hw := Lib.hid hw
        go_wp2_with fail
        refine (Tryd.strings_ToLower_ascii x.name _ (Nat.le_trans (names_short x (hmem.out (by simp))) (by omega)) (names_ascii x (hmem.out (by simp)))).mono ?_
        rintro e w3 ⟨rfl, hb3⟩
        have hll : ¬ 9223372036854775807 < 34 + (Lib.toLowerA x.name.data.toList).length := by
          have h8 := names_short x (hmem.out (by simp))
          have h9 : (Lib.toLowerA x.name.data.toList).length = x.name.size := by simp [Lib.toLowerA]
          omega
        have ht3 := there_below hb3 hl2.out ht2.out
        have hb03 := hb02.out.trans (hb3.mono hb02.out.size)
        clear hb3 ht2 hl2 hb02 x0 x1 x2 x3 x4 x5 x6
        have hr5 := World.rangeAt_setCells_same (w := w3) (b := w.heap.size) (o := 0) zeroSpec.cells ht3
        have hb5 : Below w.heap.size w (w3.setCells w.heap.size 0 zeroSpec.cells) := Below.setCells' (Nat.le_refl _) _ _ _ hb03
        replace ht3 := Lib.hid ht3
        replace hr5 := Lib.hid hr5
        replace hb5 := Lib.hid hb5
        go_wp2_with (refine wpList_store_mid rfl 26 _ _ rfl w.heap.size 0 _ rfl rfl ht3.out infoSpec (one7 _ _ _ _ _ _ _) ?_)
        exact bodyPost_ret (results_cell2 (v := .agg zeroSpec.cells.toArray) rfl rfl (run_loadVar_mid (P := Tryd.prog) _ _ 0 26 _ _ hr5.out Tryd.underlying26 rfl infoSpec)) rfl ⟨by rw [hcF.out, checkS, hw.out]; rfl, hb5.out⟩
      · by_cases h2 : x.most < (n : Int)
        · have hw : wrongB x n = true := by rw [wrongB, decide_eq_true h2, Bool.or_true]; rfl
          replace hw := Lib.hid hw
          go_wp2_with fail
          refine (Tryd.strings_ToLower_ascii x.name _ (Nat.le_trans (names_short x (hmem.out (by simp))) (by omega)) (names_ascii x (hmem.out (by simp)))).mono ?_
          rintro e w3 ⟨rfl, hb3⟩
          have hll : ¬ 9223372036854775807 < 34 + (Lib.toLowerA x.name.data.toList).length := by
            have h8 := names_short x (hmem.out (by simp))
            have h9 : (Lib.toLowerA x.name.data.toList).length = x.name.size := by simp [Lib.toLowerA]
            omega
          have ht3 := there_below hb3 hl2.out ht2.out
          have hb03 := hb02.out.trans (hb3.mono hb02.out.size)
          clear hb3 ht2 hl2 hb02 x0 x1 x2 x3 x4 x5 x6
          have hr5 := World.rangeAt_setCells_same (w := w3) (b := w.heap.size) (o := 0) zeroSpec.cells ht3
          have hb5 : Below w.heap.size w (w3.setCells w.heap.size 0 zeroSpec.cells) := Below.setCells' (Nat.le_refl _) _ _ _ hb03
          replace ht3 := Lib.hid ht3
          replace hr5 := Lib.hid hr5
          replace hb5 := Lib.hid hb5
          go_wp2_with (refine wpList_store_mid rfl 26 _ _ rfl w.heap.size 0 _ rfl rfl ht3.out infoSpec (one7 _ _ _ _ _ _ _) ?_)
          exact bodyPost_ret (results_cell2 (v := .agg zeroSpec.cells.toArray) rfl rfl (run_loadVar_mid (P := Tryd.prog) _ _ 0 26 _ _ hr5.out Tryd.underlying26 rfl infoSpec)) rfl ⟨by rw [hcF.out, checkS, hw.out]; rfl, hb5.out⟩
        · have hd1 := Lib.hid (decide_eq_false h1)
          have hd2 := Lib.hid (decide_eq_false h2)
          go_wp2_with fail
          refine (odd17_any x n (by omega) _).mono ?_
          rintro e w4 ⟨rfl, hb4⟩
          have ht4 := there_below hb4 hl2.out ht2.out
          have hb04 := hb02.out.trans (hb4.mono hb02.out.size)
          have hl4 := Nat.lt_of_lt_of_le hl2.out hb4.size
          replace x0 := cell_b hb4 x0
          replace x1 := cell_b hb4 x1
          replace x2 := cell_b hb4 x2
          replace x3 := cell_b hb4 x3
          replace x4 := cell_b hb4 x4
          replace x5 := cell_b hb4 x5
          replace x6 := cell_b hb4 x6
          clear hb4 hb02 ht2 hl2
          replace ht4 := Lib.hid ht4
          replace hb04 := Lib.hid hb04
          replace hl4 := Lib.hid hl4
          obtain ⟨o, ho⟩ : ∃ o, o = oddB x.name n := ⟨_, rfl⟩
          have hw : wrongB x n = o := by rw [wrongB, hd1.out, hd2.out, ho]; rfl
          rw [← ho]
          clear ho
          cases o with
          | true =>
            replace hw := Lib.hid hw
            go_wp2_with fail
            refine (Tryd.strings_ToLower_ascii x.name _ (Nat.le_trans (names_short x (hmem.out (by simp))) (by omega)) (names_ascii x (hmem.out (by simp)))).mono ?_
            rintro e w3 ⟨rfl, hb3⟩
            have hll : ¬ 9223372036854775807 < 34 + (Lib.toLowerA x.name.data.toList).length := by
              have h8 := names_short x (hmem.out (by simp))
              have h9 : (Lib.toLowerA x.name.data.toList).length = x.name.size := by simp [Lib.toLowerA]
              omega
            have ht3 := there_below hb3 hl4.out ht4.out
            have hb03 := hb04.out.trans (hb3.mono hb04.out.size)
            clear hb3 ht4 hl4 hb04 x0 x1 x2 x3 x4 x5 x6
            have hr5 := World.rangeAt_setCells_same (w := w3) (b := w.heap.size) (o := 0) zeroSpec.cells ht3
            have hb5 : Below w.heap.size w (w3.setCells w.heap.size 0 zeroSpec.cells) := Below.setCells' (Nat.le_refl _) _ _ _ hb03
            replace ht3 := Lib.hid ht3
            replace hr5 := Lib.hid hr5
            replace hb5 := Lib.hid hb5
            go_wp2_with (refine wpList_store_mid rfl 26 _ _ rfl w.heap.size 0 _ rfl rfl ht3.out infoSpec (one7 _ _ _ _ _ _ _) ?_)
            exact bodyPost_ret (results_cell2 (v := .agg zeroSpec.cells.toArray) rfl rfl (run_loadVar_mid (P := Tryd.prog) _ _ 0 26 _ _ hr5.out Tryd.underlying26 rfl infoSpec)) rfl ⟨by rw [hcF.out, checkS, hw.out]; rfl, hb5.out⟩
          | false =>
            replace hw := Lib.hid hw
            have hr5 := World.rangeAt_setCells_same (w := w4) (b := w.heap.size) (o := 0) x.cells ht4.out
            have hb5 : Below w.heap.size w (w4.setCells w.heap.size 0 x.cells) := Below.setCells' (Nat.le_refl _) _ _ _ hb04.out
            replace hr5 := Lib.hid hr5
            replace hb5 := Lib.hid hb5
            go_wp2_with (refine wpList_store_mid rfl 26 _ _ rfl w.heap.size 0 _ rfl rfl ht4.out infoSpec (one7 _ _ _ _ _ _ _) ?_)
            exact bodyPost_ret (results_cell2 (v := .agg x.cells.toArray) rfl rfl (run_loadVar_mid (P := Tryd.prog) _ _ 0 26 _ _ hr5.out Tryd.underlying26 rfl infoSpec)) rfl ⟨by rw [hcF.out, checkS, hw.out]; rfl, hb5.out⟩
end Go.Proofs.YtdhojdkeidilfaaDoor
